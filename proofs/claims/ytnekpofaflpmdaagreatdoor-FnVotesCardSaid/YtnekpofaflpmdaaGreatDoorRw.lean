/- Dealings and shared keys: pairs of slices of ints, lists of them; the laws' own functions on them. Rows of slices of ints that the call itself made: in a struct, and in slices of structs; one row laid or turned at a time. What is owned stays behind a store into a block of another kind. -/
import Derived.Test.YtnekpofaflpmdaaGreatDoorProg
import Derived.Test.YtnekpofaflpmdaaGreatDoorMem
import Derived.Test.YtnekpofaflpmdaaGreatDoorCiph
namespace Go.Proofs.YtnekpofaflpmdaaGreatDoor
section
section
open Go.RowKit

theorem rowsFp_app (a b : List (Option Addr × Nat × Nat)) : rowsFp (a ++ b) = rowsFp a ++ rowsFp b := by simp [rowsFp]
theorem fpI_nd (A : Option Addr) : (fpI A).Nodup := by cases A <;> simp [fpI]
/-- A slice of the call's own with n elements of s cells each: they read xs. -/
def OwnW (s : Nat) (w : World) (base e : Nat) (A : Option Addr) (n c : Nat) (xs : List Value) : Prop := w.ownsRow base e s (.slice A n c) n xs
section
variable {s : Nat} {w w' : World} {base e n c : Nat} {A : Option Addr} {xs : List Value} {fp : List Nat}
theorem OwnW.len (h : OwnW s w base e A n c xs) : xs.length = n * s := h.1
theorem OwnW.rd (h : OwnW s w base e A n c xs) : Rd w A xs := by
  rcases h.2 with ⟨hv, hn⟩ | ⟨g, cap, cur, hv, _⟩
  · exact .inl (List.eq_nil_of_length_eq_zero (h.len.trans (by rw [hn, Nat.zero_mul])))
  · injection hv with hA _ _
    subst hA
    exact .inr ⟨_, rfl, fun j u hu => World.ownsRow.cells (w := w) h rfl j u hu⟩
theorem OwnW.lt (h : OwnW s w base e A n c xs) : ∀ a, A = some a → base ≤ a.block ∧ a.block < w.heap.size := fun a ha => World.ownsRow.lt h a.block (by subst ha; rfl)
theorem OwnW.cap (h : OwnW s w base e A n c xs) : n ≤ c ∧ c ≤ maxLen := by
  rcases h.2 with ⟨hv, hn⟩ | ⟨g, cap, cur, hv, _, _, hn, hm, _, _⟩
  · injection hv with _ _ hc
    subst hc; exact ⟨by omega, Nat.zero_le _⟩
  · injection hv with _ _ hc
    subst hc; exact ⟨hn, hm⟩
theorem OwnW.keep (h : OwnW s w base e A n c xs) (hk : ∀ a, A = some a → w'.heap[a.block]? = w.heap[a.block]?) : OwnW s w' base e A n c xs := by
  refine ⟨h.1, ?_⟩
  rcases h.2 with hn | ⟨g, cap, cur, hv, hg, hh, rest⟩
  · exact .inl hn
  · have hA : A = some ⟨g, 0, none⟩ := by injection hv
    exact .inr ⟨g, cap, cur, hv, hg, (hk _ hA).trans hh, rest⟩
theorem OwnW.ext (h : OwnW s w base e A n c xs) (hb : Ext w w') : OwnW s w' base e A n c xs := h.keep fun a ha => hb.block a.block (h.lt a ha).2
theorem OwnW.nil (s : Nat) (w : World) (base e : Nat) : OwnW s w base e none 0 0 [] := ⟨by simp, .inl ⟨rfl, rfl⟩⟩
theorem OwnW.set {g j : Nat} (h : OwnW s w base e (some ⟨g, 0, none⟩) n c xs) (x : Value) : OwnW s (w.setCell ⟨g, j, none⟩ x) base e (some ⟨g, 0, none⟩) n c (xs.set j x) := (World.ownsRow.stored h j x).1
theorem OwnW.more {base' : Nat} (h : OwnW s w base e A n c xs) (hb : base' ≤ base) : OwnW s w base' e A n c xs := by
  refine ⟨h.1, ?_⟩
  rcases h.2 with hn | ⟨g, cap, cur, hv, hg, rest⟩
  · exact .inl hn
  · exact .inr ⟨g, cap, cur, hv, Nat.le_trans hb hg, rest⟩
theorem OwnW.at0 {g : Nat} (h : OwnW s w base e (some ⟨g, 0, none⟩) n c xs) (j : Nat) (hj : j < xs.length) : w.cell? ⟨g, j, none⟩ = some xs[j] ∧ w.frozen? ⟨g, j, none⟩ = false := by
  refine ⟨?_, World.ownsRow.frozenAt h j⟩
  rw [World.ownsRow.cellAt h j (by have := h.len; omega)]
  simp [hj]
theorem OwnW.low (h : OwnW s w base e A n c xs) : Low (fpI A) w.heap.size := by
  intro b hb
  cases A with
  | none => simp [fpI] at hb
  | some a => simp only [fpI, List.mem_singleton] at hb; subst hb; exact (h.lt a rfl).2
theorem OwnW.high (h : OwnW s w base e A n c xs) : High base (fpI A) := by
  intro b hb
  cases A with
  | none => simp [fpI] at hb
  | some a => simp only [fpI, List.mem_singleton] at hb; subst hb; exact (h.lt a rfl).1
theorem OwnW.only (h : OwnW s w base e A n c xs) (k : Only fp w w') (ha : Apart (fpI A) fp) : OwnW s w' base e A n c xs :=
  h.keep fun a hA => k.block a.block (h.lt a hA).2 (ha a.block (by subst hA; simp [fpI]))
theorem OwnW.addr (h : OwnW s w base e A n c xs) (hn : 0 < n) : ∃ g, A = some ⟨g, 0, none⟩ ∧ base ≤ g := by
  rcases h.2 with ⟨hv, h0⟩ | ⟨g, cap, cur, hv, hbg, _⟩
  · omega
  · injection hv with hA _ _
    exact ⟨g, hA, hbg⟩
theorem OwnW.block (h : OwnW s w base e A n c xs) {b : Nat} (hb : b ∈ fpI A) : ∃ cur, w.heap[b]? = some (.cells cur e (0, 0)) := by
  rcases h.2 with ⟨hv, _⟩ | ⟨g, cap, cur, hv, _, hg, _⟩
  · injection hv with hA; subst hA; simp [fpI] at hb
  · injection hv with hA; subst hA
    simp only [fpI, List.mem_singleton] at hb
    subst hb; exact ⟨cur, hg⟩
end
theorem OwnI.w {w : World} {base e n c : Nat} {A : Option Addr} {l : List Int} (h : OwnI w base e A n c l) : OwnW 1 w base e A n c (ints l) := h
/-- Blocks of different element types are different. -/
theorem apart_typesW {w : World} {s t b1 b2 e1 e2 n1 n2 c1 c2 : Nat} {A B : Option Addr} {xs ys : List Value} (h : OwnW s w b1 e1 A n1 c1 xs) (k : OwnW t w b2 e2 B n2 c2 ys) (hne : e1 ≠ e2) : Apart (fpI A) (fpI B) := by
  intro b hb hb'
  obtain ⟨c1, h1⟩ := h.block hb
  obtain ⟨c2, h2⟩ := k.block hb'
  rw [h1] at h2
  simp only [Option.some.injEq, Obj.cells.injEq] at h2
  exact hne h2.2.1

/-- The rows of a list of dealings, one behind the other. -/
def flD (ds : List (List Int × List Int)) : List (List Int) := ds.flatMap fun d => [d.1, d.2]
theorem flD_length (ds : List (List Int × List Int)) : (flD ds).length = ds.length * 2 := by
  induction ds with
  | nil => rfl
  | cons p l ih => simp only [flD, List.flatMap_cons, List.length_append] at *; simp [ih]; omega
theorem flD_append (l m : List (List Int × List Int)) : flD (l ++ m) = flD l ++ flD m := by simp [flD]
theorem flD_one (d : List Int × List Int) : flD [d] = [d.1, d.2] := rfl
theorem flD_get? {l : List (List Int × List Int)} {k : Nat} (h : k < l.length) : (flD l)[k * 2]? = some l[k].1 ∧ (flD l)[k * 2 + 1]? = some l[k].2 := by
  induction l generalizing k with
  | nil => simp at h
  | cons p l ih =>
    have e : flD (p :: l) = p.1 :: p.2 :: flD l := rfl
    match k with
    | 0 => rw [e]; exact ⟨rfl, rfl⟩
    | k + 1 =>
      obtain ⟨h1, h2⟩ := ih (k := k) (by simpa using h)
      rw [e, show (k + 1) * 2 = k * 2 + 1 + 1 by omega]
      simp only [List.getElem?_cons_succ, List.getElem_cons_succ]
      exact ⟨h1, h2⟩
theorem flD_get {l : List (List Int × List Int)} {k : Nat} (h : k < l.length) : (flD l)[k * 2]'(by rw [flD_length]; omega) = l[k].1 ∧ (flD l)[k * 2 + 1]'(by rw [flD_length]; omega) = l[k].2 := by
  obtain ⟨h1, h2⟩ := flD_get? h
  exact ⟨(List.getElem?_eq_some_iff.1 h1).2, (List.getElem?_eq_some_iff.1 h2).2⟩
/-- The cells from A on are dealings that read ds. -/
def RdD (w : World) (A : Option Addr) (ds : List (List Int × List Int)) : Prop := RdSS w A (flD ds)
theorem RdD.ext {w w' : World} {A : Option Addr} {ds : List (List Int × List Int)} (h : RdD w A ds) (hE : Ext w w') : RdD w' A ds := RdSS.ext h hE
/-- A slice that reads l. -/
structure SlI (w : World) (A : Option Addr) (n c : Nat) (l : List Int) : Prop where
  rd : RdI w A l
  len : l.length = n
  cap : n ≤ c
  max : c ≤ maxLen
theorem SlI.ext {w w' : World} {A : Option Addr} {n c : Nat} {l : List Int} (h : SlI w A n c l) (hE : Ext w w') : SlI w' A n c l := ⟨h.rd.ext hE, h.len, h.cap, h.max⟩
theorem SlI.le {w : World} {A : Option Addr} {n c : Nat} {l : List Int} (h : SlI w A n c l) : n ≤ maxLen := Nat.le_trans h.cap h.max
theorem RdD.at_ {w : World} {A : Option Addr} {ds : List (List Int × List Int)} {k : Nat} (h : RdD w A ds) (hk : k < ds.length) :
    ∃ ad, A = some ad ∧ ∃ B n c D m d, w.cell? (ad.add (k * 2)) = some (.slice B n c) ∧ w.cell? ⟨(ad.add (k * 2)).block, (ad.add (k * 2)).off + 1, none⟩ = some (.slice D m d) ∧ SlI w B n c ds[k].1 ∧ SlI w D m d ds[k].2 := by
  obtain ⟨ad, hA, B, n, c, h1, h2, h3, h4, h5⟩ := RdSS.at_ h (k := k * 2) (by rw [flD_length]; omega)
  obtain ⟨ad', hA', D, m, d, g1, g2, g3, g4, g5⟩ := RdSS.at_ h (k := k * 2 + 1) (by rw [flD_length]; omega)
  obtain rfl : ad = ad' := by rw [hA] at hA'; injection hA'
  rw [(flD_get hk).1] at h2 h3
  rw [(flD_get hk).2] at g2 g3
  rw [← add_add] at g1
  exact ⟨ad, hA, B, n, c, D, m, d, h1, g1, ⟨h2, h3, h4, h5⟩, ⟨g2, g3, g4, g5⟩⟩

/-- Rows that are read. -/
def RowsRd (w : World) (rs : List (Option Addr × Nat × Nat)) (ls : List (List Int)) : Prop :=
  rs.length = ls.length ∧ ∀ i, (h : i < rs.length) → (h' : i < ls.length) → SlI w rs[i].1 rs[i].2.1 rs[i].2.2 ls[i]
theorem RowsRd.ext {w w' : World} {rs : List (Option Addr × Nat × Nat)} {ls : List (List Int)} (h : RowsRd w rs ls) (hE : Ext w w') : RowsRd w' rs ls := ⟨h.1, fun i hi hi' => (h.2 i hi hi').ext hE⟩
theorem RowsRd.nil (w : World) : RowsRd w [] [] := ⟨rfl, fun i h => absurd h (by simp)⟩
theorem RowsRd.append {w : World} {rs rs' : List (Option Addr × Nat × Nat)} {ls ls' : List (List Int)} (h : RowsRd w rs ls) (h' : RowsRd w rs' ls') : RowsRd w (rs ++ rs') (ls ++ ls') := by
  refine ⟨by simp [h.1, h'.1], fun i hi hi' => ?_⟩
  have e := h.1
  by_cases hlt : i < rs.length
  · rw [List.getElem_append_left hlt, List.getElem_append_left (by omega)]
    exact h.2 i hlt (by omega)
  · rw [List.getElem_append_right (by omega), List.getElem_append_right (by omega)]
    have := h'.2 (i - rs.length) (by simp at hi; omega) (by simp at hi'; omega)
    simpa [e] using this
theorem RowsRd.two {w : World} {A B : Option Addr} {n c m d : Nat} {l k : List Int} (h : SlI w A n c l) (h' : SlI w B m d k) : RowsRd w [(A, n, c), (B, m, d)] [l, k] :=
  ⟨rfl, fun i hi _ => match i, hi with
    | 0, _ => h
    | 1, _ => h'⟩
theorem RowsRd.rd {w : World} {A : Option Addr} {rs : List (Option Addr × Nat × Nat)} {ls : List (List Int)} (h : RowsRd w rs ls) (hr : Rd w A (rs.map rowV)) : RdSS w A ls := by
  rcases hr with h0 | ⟨ad, hA, hc⟩
  · left
    have : rs.length = 0 := by simpa using congrArg List.length h0
    exact List.eq_nil_of_length_eq_zero (by rw [← h.1]; exact this)
  · refine .inr ⟨ad, hA, fun k hk => ?_⟩
    have hk' : k < rs.length := by rw [h.1]; exact hk
    obtain ⟨h1, h2, h3, h4⟩ := h.2 k hk' hk
    exact ⟨_, _, _, hc k _ (by simp [hk', rowV]), h1, h2, h3, h4⟩
/-- What is read as a list of rows has rows. -/
theorem RdSS.rows {w : World} {A : Option Addr} {ls : List (List Int)} (h : RdSS w A ls) : ∃ rs, RowsRd w rs ls ∧ Rd w A (rs.map rowV) := by
  rcases h with rfl | ⟨ad, hA, hc⟩
  · exact ⟨[], RowsRd.nil w, .inl rfl⟩
  · have key : ∀ k : Nat, ∃ r : Option Addr × Nat × Nat, ∀ h : k < ls.length, w.cell? (ad.add k) = some (rowV r) ∧ SlI w r.1 r.2.1 r.2.2 ls[k] := fun k => by
      by_cases h : k < ls.length
      · obtain ⟨B, n, c, h1, h2, h3, h4, h5⟩ := hc k h
        exact ⟨(B, n, c), fun _ => ⟨h1, h2, h3, h4, h5⟩⟩
      · exact ⟨(none, 0, 0), fun h' => absurd h' h⟩
    let g : Nat → Option Addr × Nat × Nat := fun k => Classical.choose (key k)
    have hg : ∀ k, ∀ h : k < ls.length, w.cell? (ad.add k) = some (rowV (g k)) ∧ SlI w (g k).1 (g k).2.1 (g k).2.2 ls[k] := fun k => Classical.choose_spec (key k)
    refine ⟨(List.range ls.length).map g, ⟨by simp, fun i hi hi' => ?_⟩, .inr ⟨ad, hA, fun j u hu => ?_⟩⟩
    · simpa using (hg i hi').2
    · simp only [List.map_map, List.getElem?_map, Option.map_eq_some_iff] at hu
      obtain ⟨k, hk, rfl⟩ := hu
      obtain ⟨hj, rfl⟩ := List.getElem?_eq_some_iff.1 hk
      have hj' : j < ls.length := by simpa using hj
      simpa using (hg j hj').1

/-- A dealing of the call's own. -/
structure OwnK (w : World) (base : Nat) (A : Option Addr) (n c : Nat) (B : Option Addr) (m d : Nat) (l k : List Int) : Prop where
  a : OwnI w base 3 A n c l
  b : OwnI w base 3 B m d k
  ap : Apart (fpI A) (fpI B)
section
variable {w w' : World} {base n c m d : Nat} {A B : Option Addr} {l k : List Int} {fp : List Nat}
theorem OwnI.sl {w : World} {base n c : Nat} {A : Option Addr} {l : List Int} (h : OwnI w base 3 A n c l) : SlI w A n c l := ⟨h.rd, h.len, h.cap.1, h.cap.2⟩
theorem OwnK.ext (h : OwnK w base A n c B m d l k) (hb : Ext w w') : OwnK w' base A n c B m d l k := ⟨h.a.ext hb, h.b.ext hb, h.ap⟩
theorem OwnK.more {base' : Nat} (h : OwnK w base A n c B m d l k) (hb : base' ≤ base) : OwnK w base' A n c B m d l k := ⟨h.a.more hb, h.b.more hb, h.ap⟩
theorem OwnK.low (h : OwnK w base A n c B m d l k) : Low (fpI A ++ fpI B) w.heap.size := fun b hb => (List.mem_append.1 hb).elim (h.a.low b) (h.b.low b)
theorem OwnK.high (h : OwnK w base A n c B m d l k) : High base (fpI A ++ fpI B) := fun b hb => (List.mem_append.1 hb).elim (h.a.high b) (h.b.high b)
theorem OwnK.only (h : OwnK w base A n c B m d l k) (hk : Only fp w w') (ha : Apart (fpI A ++ fpI B) fp) : OwnK w' base A n c B m d l k :=
  ⟨h.a.only hk fun b hb => ha b (List.mem_append_left _ hb), h.b.only hk fun b hb => ha b (List.mem_append_right _ hb), h.ap⟩
theorem OwnK.nil (w : World) (base : Nat) : OwnK w base none 0 0 none 0 0 [] [] := ⟨OwnI.nil _ _ _, OwnI.nil _ _ _, fun b hb => by simp [fpI] at hb⟩
end

section
variable {w w' : World} {base n c : Nat} {A : Option Addr} {P fp : List Nat} {ds : List (List Int × List Int)}
end
theorem rowsFp_pad (k : Nat) : rowsFp (List.replicate k (none, 0, 0)) = [] := by
  induction k with
  | zero => rfl
  | succ k ih => rw [List.replicate_succ]; simp [rowsFp, fpI]
end
section
open Go.RowKit

/-- Rows of the call's own, block by block apart. -/
structure OwnL (w : World) (base : Nat) (rs : List (Option Addr × Nat × Nat)) (ls : List (List Int)) : Prop where
  len : rs.length = ls.length
  own : ∀ i, (h : i < rs.length) → (h' : i < ls.length) → OwnI w base 3 rs[i].1 rs[i].2.1 rs[i].2.2 ls[i]
  nd : (rowsFp rs).Nodup
section
variable {w w' : World} {base n c s t : Nat} {A : Option Addr} {P fp : List Nat} {rs : List (Option Addr × Nat × Nat)} {ls : List (List Int)}
theorem OwnL.nil (w : World) (base : Nat) : OwnL w base [] [] := ⟨rfl, fun i h => absurd h (by simp), by simp [rowsFp]⟩
theorem OwnL.one {l : List Int} (h : OwnI w base 3 A n c l) : OwnL w base [(A, n, c)] [l] :=
  ⟨rfl, fun i hi _ => match i, hi with | 0, _ => h, by simp [rowsFp, fpI_nd]⟩
theorem rowsFp_one (A : Option Addr) (n c : Nat) : rowsFp [(A, n, c)] = fpI A := by simp [rowsFp]
theorem rowsFp_cons (x : Option Addr × Nat × Nat) (t : List (Option Addr × Nat × Nat)) : rowsFp (x :: t) = fpI x.1 ++ rowsFp t := rfl
theorem OwnL.app {rs' : List (Option Addr × Nat × Nat)} {ls' : List (List Int)} (h : OwnL w base rs ls) (k : OwnL w base rs' ls') (ha : Apart (rowsFp rs) (rowsFp rs')) : OwnL w base (rs ++ rs') (ls ++ ls') := by
  have e := h.len
  refine ⟨by simp [h.len, k.len], fun i hi hi' => ?_, ?_⟩
  · by_cases hlt : i < rs.length
    · rw [List.getElem_append_left hlt, List.getElem_append_left (by omega)]
      exact h.own i hlt (by omega)
    · rw [List.getElem_append_right (by omega), List.getElem_append_right (by omega)]
      have := k.own (i - rs.length) (by simp at hi; omega) (by simp at hi'; omega)
      simpa [e] using this
  · rw [rowsFp_app, List.nodup_append]
    exact ⟨h.nd, k.nd, fun a ha' b hb e => ha a ha' (e ▸ hb)⟩
theorem OwnL.cons {l : List Int} (h : OwnI w base 3 A n c l) (k : OwnL w base rs ls) (ha : Apart (fpI A) (rowsFp rs)) : OwnL w base ((A, n, c) :: rs) (l :: ls) :=
  (OwnL.one h).app k (by rw [rowsFp_one]; exact ha)
theorem OwnL.rd (h : OwnL w base rs ls) : RowsRd w rs ls := ⟨h.len, fun i hi hi' => (h.own i hi hi').sl⟩
theorem OwnL.low (h : OwnL w base rs ls) : Low (rowsFp rs) w.heap.size := by
  intro b hb
  obtain ⟨r, hr, hb⟩ := rowsFp_mem.1 hb
  obtain ⟨i, hi, rfl⟩ := List.getElem_of_mem hr
  exact (h.own i hi (by have := h.len; omega)).low b hb
theorem OwnL.high (h : OwnL w base rs ls) : High base (rowsFp rs) := by
  intro b hb
  obtain ⟨r, hr, hb⟩ := rowsFp_mem.1 hb
  obtain ⟨i, hi, rfl⟩ := List.getElem_of_mem hr
  exact (h.own i hi (by have := h.len; omega)).high b hb
theorem OwnL.only (h : OwnL w base rs ls) (k : Only fp w w') (ha : Apart (rowsFp rs) fp) : OwnL w' base rs ls :=
  ⟨h.len, fun i hi hi' => (h.own i hi hi').only k fun b hb => ha b (rowsFp_mem.2 ⟨_, List.getElem_mem hi, hb⟩), h.nd⟩
theorem OwnL.ext (h : OwnL w base rs ls) (hb : Ext w w') : OwnL w' base rs ls := h.only (hb.toOnly []) (fun _ _ => by simp)
theorem OwnL.more {base' : Nat} (h : OwnL w base rs ls) (hb : base' ≤ base) : OwnL w base' rs ls := ⟨h.len, fun i hi hi' => (h.own i hi hi').more hb, h.nd⟩
/-- One row is turned. -/
theorem OwnL.turn (h : OwnL w base rs ls) {j : Nat} (hj : j < rs.length) {l' : List Int} (hO : OwnI w' base 3 rs[j].1 rs[j].2.1 rs[j].2.2 l') (hk : Only (fpI rs[j].1) w w') : OwnL w' base rs (ls.set j l') := by
  have e := h.len
  refine ⟨by simpa using h.len, fun i hi hi' => ?_, h.nd⟩
  by_cases e1 : i = j
  · subst e1; simpa using hO
  · rw [List.getElem_set_ne (by omega)]
    exact (h.own i hi (by simpa using hi')).only hk (rowsFp_apart h.nd hi hj e1)

/-- A slice of structs of slices, s slices each: its rows one behind the other; P: all its blocks. -/
def OwnG (s t : Nat) (w : World) (base : Nat) (A : Option Addr) (n c : Nat) (P : List Nat) (ls : List (List Int)) : Prop :=
  ∃ rs : List (Option Addr × Nat × Nat), OwnW s w base t A n c (rs.map rowV) ∧ OwnL w base rs ls ∧ P = fpI A ++ rowsFp rs
theorem OwnG.len (h : OwnG s t w base A n c P ls) : ls.length = n * s := by
  obtain ⟨rs, hV, hL, _⟩ := h
  have := hV.len
  rw [List.length_map, hL.len] at this; exact this
theorem OwnG.cap (h : OwnG s t w base A n c P ls) : n ≤ c ∧ c ≤ maxLen := by obtain ⟨rs, hV, _⟩ := h; exact hV.cap
theorem OwnG.le (h : OwnG s t w base A n c P ls) : n ≤ maxLen := Nat.le_trans h.cap.1 h.cap.2
theorem OwnG.rd (h : OwnG s t w base A n c P ls) : RdSS w A ls := by
  obtain ⟨rs, hV, hL, _⟩ := h
  exact RowsRd.rd hL.rd hV.rd
theorem OwnG.low (h : OwnG s t w base A n c P ls) : Low P w.heap.size := by
  obtain ⟨rs, hV, hL, rfl⟩ := h
  intro b hb
  rcases List.mem_append.1 hb with hb | hb
  · exact hV.low b hb
  · exact hL.low b hb
theorem OwnG.high (h : OwnG s t w base A n c P ls) : High base P := by
  obtain ⟨rs, hV, hL, rfl⟩ := h
  intro b hb
  rcases List.mem_append.1 hb with hb | hb
  · exact hV.high b hb
  · exact hL.high b hb
theorem OwnG.only (h : OwnG s t w base A n c P ls) (k : Only fp w w') (ha : Apart P fp) : OwnG s t w' base A n c P ls := by
  obtain ⟨rs, hV, hL, rfl⟩ := h
  exact ⟨rs, hV.only k fun b hb => ha b (List.mem_append_left _ hb), hL.only k fun b hb => ha b (List.mem_append_right _ hb), rfl⟩
theorem OwnG.ext (h : OwnG s t w base A n c P ls) (hb : Ext w w') : OwnG s t w' base A n c P ls := h.only (hb.toOnly []) (fun _ _ => by simp)
theorem OwnG.more {base' : Nat} (h : OwnG s t w base A n c P ls) (hb : base' ≤ base) : OwnG s t w base' A n c P ls := by
  obtain ⟨rs, hV, hL, rfl⟩ := h
  exact ⟨rs, hV.more hb, hL.more hb, rfl⟩
/-- Row j: its cell, its ints; the whole behind a call that turned that row alone. -/
theorem OwnG.row (ht : t ≠ 3) {j : Nat} (h : OwnG s t w base A n c P ls) (hj : j < ls.length) :
    ∃ g B m d, A = some ⟨g, 0, none⟩ ∧ w.cell? ⟨g, j, none⟩ = some (.slice B m d) ∧ OwnI w base 3 B m d ls[j] ∧ (∀ b ∈ fpI B, b ∈ P) ∧
      ∀ w' l', OwnI w' base 3 B m d l' → Only (fpI B) w w' → OwnG s t w' base A n c P (ls.set j l') := by
  obtain ⟨rs, hV, hL, rfl⟩ := h
  have hj' : j < rs.length := by have := hL.len; omega
  have hn := hV.len
  rw [List.length_map] at hn
  obtain ⟨g, hA, _⟩ := hV.addr (by
    rcases Nat.eq_zero_or_pos n with h0 | h0
    · subst h0; rw [Nat.zero_mul] at hn; omega
    · exact h0)
  subst hA
  have hO := hL.own j hj' hj
  have hsub : ∀ b ∈ fpI rs[j].1, b ∈ fpI (some (⟨g, 0, none⟩ : Addr)) ++ rowsFp rs := fun b hb => List.mem_append_right _ (rowsFp_mem.2 ⟨_, List.getElem_mem hj', hb⟩)
  refine ⟨g, rs[j].1, rs[j].2.1, rs[j].2.2, rfl, ?_, hO, hsub, fun w' l' hO' hk => ⟨rs, hV.only hk (apart_typesW hV hO.w ht), hL.turn hj' hO' hk, rfl⟩⟩
  rw [(hV.at0 j (by simpa using hj')).1]; simp [rowV]
theorem OwnG.frz {g : Nat} (h : OwnG s t w base (some ⟨g, 0, none⟩) n c P ls) (j : Nat) : Hid (w.frozen? ⟨g, j, none⟩ = false) := by
  obtain ⟨rs, hV, _⟩ := h
  exact World.ownsRow.frozenAt hV j
/-- A row is laid into its cell. -/
theorem OwnG.lay (ht : t ≠ 3) {g j : Nat} {B : Option Addr} {m d : Nat} {l : List Int} (h : OwnG s t w base (some ⟨g, 0, none⟩) n c P ls) (hj : j < ls.length) (hrow : OwnI w base 3 B m d l) (hap : Apart (fpI B) P) :
    ∃ P', OwnG s t (w.setCell ⟨g, j, none⟩ (.slice B m d)) base (some ⟨g, 0, none⟩) n c P' (ls.set j l) ∧ ∀ b ∈ P', b ∈ P ∨ b ∈ fpI B := by
  obtain ⟨rs, hV, hL, rfl⟩ := h
  have hl := hL.len
  have hj' : j < rs.length := by omega
  have hon : Only [g] w (w.setCell ⟨g, j, none⟩ (.slice B m d)) := (Only.refl [g] w).setCell (p := ⟨g, j, none⟩) (by simp) _
  have hA : ∀ {b1 n1 c1 : Nat} {C : Option Addr} {x : List Int}, OwnI w b1 3 C n1 c1 x → OwnI (w.setCell ⟨g, j, none⟩ (.slice B m d)) b1 3 C n1 c1 x := fun hk =>
    hk.only hon (fun b hb hb' => apart_typesW hV hk.w ht b (by simpa [fpI] using hb') hb)
  have h1 : rs = rs.take j ++ rs[j] :: rs.drop (j + 1) := by
    rw [← List.drop_eq_getElem_cons hj', List.take_append_drop]
  have h2 : rs.set j (B, m, d) = rs.take j ++ (B, m, d) :: rs.drop (j + 1) := by
    conv => lhs; rw [h1]
    rw [List.set_append_right _ _ (by rw [List.length_take]; omega), List.length_take, Nat.min_eq_left (by omega), Nat.sub_self, List.set_cons_zero]
  have hmem : ∀ b ∈ rowsFp (rs.set j (B, m, d)), b ∈ rowsFp rs ∨ b ∈ fpI B := fun b hb => by
    rw [h2, rowsFp_app, rowsFp_cons] at hb
    rw [h1, rowsFp_app, rowsFp_cons]
    simp only [List.mem_append] at hb ⊢
    rcases hb with hb | hb | hb
    · exact .inl (.inl hb)
    · exact .inr hb
    · exact .inl (.inr (.inr hb))
  refine ⟨_, ⟨rs.set j (B, m, d), ?_, ⟨by simpa using hl, fun i hi hi' => ?_, ?_⟩, rfl⟩, fun b hb => ?_⟩
  · have h3 := hV.set (j := j) (.slice B m d)
    have h4 : (rs.map rowV).set j (.slice B m d) = (rs.set j (B, m, d)).map rowV := by rw [List.map_set]; rfl
    rw [h4] at h3
    exact h3
  · by_cases e1 : i = j
    · subst e1; simpa using hA hrow
    · have := hA (hL.own i (by simpa using hi) (by simpa using hi'))
      simpa [List.getElem_set_ne (Ne.symm e1)] using this
  · have hap' : ∀ b ∈ fpI B, ¬ b ∈ rowsFp rs := fun b hb hb' => hap b hb (List.mem_append_right _ hb')
    have hd := hL.nd
    rw [h2]
    rw [h1] at hd hap'
    rw [rowsFp_app, rowsFp_cons] at hd hap' ⊢
    have hnB := fpI_nd B
    generalize fpI B = fB at *
    generalize rowsFp (rs.take j) = X at *
    generalize rowsFp (rs.drop (j + 1)) = Y at *
    simp only [List.nodup_append, List.mem_append, not_or, ne_eq] at hd hap' ⊢
    obtain ⟨d1, ⟨_, d2, _⟩, d3⟩ := hd
    refine ⟨d1, ⟨hnB, d2, fun b hb b' hb' e => ?_⟩, fun b hb b' hb' e => ?_⟩
    · subst e; exact (hap' b hb).2.2 hb'
    · subst e
      rcases hb' with hb' | hb'
      · exact (hap' b hb').1 hb
      · exact d3 b hb b (.inr hb') rfl
  · rcases List.mem_append.1 hb with hb | hb
    · exact .inl (List.mem_append_left _ hb)
    · exact (hmem b hb).imp (List.mem_append_right _) id
theorem ownG_pad (h : OwnW s w base t A n c (List.replicate (n * s) (.slice none 0 0))) : OwnG s t w base A n c (fpI A) (List.replicate (n * s) []) := by
  refine ⟨List.replicate (n * s) (none, 0, 0), by simpa [rowV] using h, ⟨by simp, fun i hi hi' => ?_, by rw [rowsFp_pad]; simp⟩, by rw [rowsFp_pad]; simp⟩
  simp only [List.getElem_replicate]
  exact OwnI.nil _ _ _
end
end
end
section
open Go.RowKit

theorem Blk.off_own {w : World} {g base e n c s : Nat} {t : TypeId} {cs : Array Value} {A : Option Addr} {xs : List Value} (h : Blk w g t cs) (ho : OwnW s w base e A n c xs) (hne : t ≠ e) : g ∉ fpI A := by
  intro hh
  obtain ⟨cur, hc⟩ := ho.block hh
  unfold Blk at h
  rw [h] at hc
  simp only [Option.some.injEq, Obj.cells.injEq] at hc
  exact hne hc.2.1
theorem OwnI.keepBlk {w : World} {g base n c : Nat} {t : TypeId} {cs : Array Value} {A : Option Addr} {l : List Int} (h : OwnI w base 3 A n c l) (hB : Blk w g t cs) (hne : t ≠ 3) {w' : World} (ho : Only [g] w w') : OwnI w' base 3 A n c l :=
  h.only ho fun b hb hb' => hB.off_own h.w hne (by simp at hb'; subst hb'; exact hb)
/-- Two cells of a block are stored. -/
theorem only_two (w : World) (g i j : Nat) (u v : Value) : Only [g] w ((w.setCell ⟨g, i, none⟩ u).setCell ⟨g, j, none⟩ v) :=
  ((Only.refl _ _).setCell (p := ⟨g, i, none⟩) (by simp) _).setCell (p := ⟨g, j, none⟩) (by simp) _
theorem Ext.setCellS {w w' : World} {p : Addr} {u : Value} (hp : w.heap.size ≤ p.block) (h : Ext w w') : Ext w (w'.setCell p u) := h.setCell hp u
theorem Ext.only1 {w w' w'' : World} {g : Nat} (h : Ext w w') (hg : w.heap.size ≤ g) (k : Only [g] w' w'') : Ext w w'' := h.only k fun b hb => by simp at hb; omega
end
end Go.Proofs.YtnekpofaflpmdaaGreatDoor
