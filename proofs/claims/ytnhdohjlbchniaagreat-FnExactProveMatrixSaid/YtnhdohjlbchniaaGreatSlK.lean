/- Contracts for the laws' own functions on lists of lists: comparisons, marks. Contracts for the laws' own functions on lists of lists that come in: copies, sizes. Proofs: structs of three slices of ints, lists of them. Arguments opened: slices of pairs of ints, slices of slices of ints. Arguments opened: pairs of slices of ints, slices of them. Arguments opened: sealed ballots, matrix proofs. Contracts for the laws' own functions on dealings and shared keys: copies, comparisons, marks, sizes. Contracts for the laws' own functions on proofs and lists of them: copies, comparisons, marks, sizes. (Printed by tools/gen_pfk.py.) Contracts for the laws' own functions on sealed ballots and matrix proofs: copies, comparisons, marks, sizes. (Printed by tools/gen_slk.py.) -/
import Derived.Test.YtnhdohjlbchniaaGreatProg
import Derived.Test.YtnhdohjlbchniaaGreatMem
import Derived.Test.YtnhdohjlbchniaaGreatRw
import Derived.Test.YtnhdohjlbchniaaGreatOpen
import Derived.Test.YtnhdohjlbchniaaGreatCiph
import Derived.Test.YtnhdohjlbchniaaGreatGood
import Derived.Deep.Matrix
namespace Go.Proofs.YtnhdohjlbchniaaGreat
section
section
open Go.RowKit



end
section
open Go.RowKit

theorem rowsFp_append (a b : List (Option Addr × Nat × Nat)) : rowsFp (a ++ b) = rowsFp a ++ rowsFp b := by simp [rowsFp]
theorem fpI_nodup (A : Option Addr) : (fpI A).Nodup := by cases A <;> simp [fpI]
/-- A row is laid into its cell. -/
theorem OwnII.lay {w : World} {base n c g j : Nat} {P : List Nat} {ls : List (List Int)} {B : Option Addr} {m d : Nat} {l : List Int} (h : OwnII w base (some ⟨g, 0, none⟩) n c P ls) (hj : j < ls.length) (hrow : OwnI w base 3 B m d l) (hap : Apart (fpI B) P) :
    ∃ P', OwnII (w.setCell ⟨g, j, none⟩ (.slice B m d)) base (some ⟨g, 0, none⟩) n c P' (ls.set j l) := by
  obtain ⟨rs, hV, hl, hI, hd, rfl⟩ := h
  have hj' : j < rs.length := by omega
  have hon : Only [g] w (w.setCell ⟨g, j, none⟩ (.slice B m d)) := (Only.refl [g] w).setCell (p := ⟨g, j, none⟩) (by simp) _
  have hA : ∀ {b1 n1 c1 : Nat} {C : Option Addr} {k : List Int}, OwnI w b1 3 C n1 c1 k → OwnI (w.setCell ⟨g, j, none⟩ (.slice B m d)) b1 3 C n1 c1 k := fun hk =>
    hk.only hon (fun b hb hb' => apart_types hV hk.v (by decide) b (by simpa [fpI] using hb') hb)
  refine ⟨_, rs.set j (B, m, d), ?_, by simpa using hl, fun i hi hi' => ?_, ?_, rfl⟩
  · have h1 := hV.set (j := j) (.slice B m d)
    have h2 : (rs.map rowV).set j (.slice B m d) = (rs.set j (B, m, d)).map rowV := by rw [List.map_set]; rfl
    rw [h2] at h1
    exact h1
  · by_cases e : i = j
    · subst e; simpa using hA hrow
    · have := hA (hI i (by simpa using hi) (by simpa using hi'))
      simpa [List.getElem_set_ne (Ne.symm e)] using this
  · have h1 : rs = rs.take j ++ rs[j] :: rs.drop (j + 1) := by rw [← List.drop_eq_getElem_cons hj', List.take_append_drop]
    have h2 : rs.set j (B, m, d) = rs.take j ++ (B, m, d) :: rs.drop (j + 1) := by
      conv => lhs; rw [h1]
      rw [List.set_append_right _ _ (by rw [List.length_take]; omega), List.length_take, Nat.min_eq_left (by omega), Nat.sub_self, List.set_cons_zero]
    have hap' : ∀ b ∈ fpI B, ¬ b ∈ rowsFp rs := fun b hb hb' => hap b hb (List.mem_append_right _ hb')
    rw [h2]
    rw [h1] at hd hap'
    have h3 : ∀ (x : Option Addr × Nat × Nat) (t : List (Option Addr × Nat × Nat)), rowsFp (x :: t) = fpI x.1 ++ rowsFp t := fun _ _ => rfl
    rw [rowsFp_append, h3] at hd hap' ⊢
    simp only [List.nodup_append, List.mem_append, not_or] at hd hap' ⊢
    refine ⟨hd.1, ⟨fpI_nodup B, hd.2.1.2.1, fun b hb b' hb' e => ?_⟩, fun b hb b' hb' e => ?_⟩
    · subst e; exact (hap' b hb).2.2 hb'
    · subst e
      rcases hb' with hb' | hb'
      · exact (hap' b hb').1 hb
      · exact hd.2.2 b hb b (.inr hb') rfl

theorem ownII_pad {w : World} {base n c : Nat} {A : Option Addr} (h : OwnV w base 25 A n c (List.replicate n (.slice none 0 0))) : OwnII w base A n c (fpI A) (List.replicate n []) := by
  have e : ∀ k, rowsFp (List.replicate k (none, 0, 0)) = [] := fun k => by
    induction k with
    | zero => rfl
    | succ k ih => rw [List.replicate_succ]; simp [rowsFp, fpI]
  refine ⟨List.replicate n (none, 0, 0), by simpa [rowV] using h, by simp, fun i hi hi' => ?_, by rw [e]; simp, by rw [e]; simp⟩
  simp only [List.getElem_replicate]
  exact OwnI.nil _ _ _


end
section
open Go.RowKit

/-- The rows of a list of proofs, one behind the other. -/
def flP (ps : List (List Int × List Int × List Int)) : List (List Int) := ps.flatMap fun p => [p.1, p.2.1, p.2.2]
theorem flP_append (l m : List (List Int × List Int × List Int)) : flP (l ++ m) = flP l ++ flP m := by simp [flP]
theorem flP_length (ps : List (List Int × List Int × List Int)) : (flP ps).length = ps.length * 3 := by
  induction ps with
  | nil => rfl
  | cons p l ih => simp only [flP, List.flatMap_cons, List.length_append] at *; simp [ih]; omega
theorem flP_get? {l : List (List Int × List Int × List Int)} {k : Nat} (h : k < l.length) : (flP l)[k * 3]? = some l[k].1 ∧ (flP l)[k * 3 + 1]? = some l[k].2.1 ∧ (flP l)[k * 3 + 2]? = some l[k].2.2 := by
  induction l generalizing k with
  | nil => simp at h
  | cons p l ih =>
    have e : flP (p :: l) = p.1 :: p.2.1 :: p.2.2 :: flP l := rfl
    match k with
    | 0 => rw [e]; exact ⟨rfl, rfl, rfl⟩
    | k + 1 =>
      obtain ⟨h1, h2, h3⟩ := ih (k := k) (by simpa using h)
      rw [e, show (k + 1) * 3 = k * 3 + 1 + 1 + 1 by omega]
      simp only [List.getElem?_cons_succ, List.getElem_cons_succ]
      exact ⟨h1, h2, h3⟩
theorem flP_get {l : List (List Int × List Int × List Int)} {k : Nat} (h : k < l.length) : (flP l)[k * 3]'(by rw [flP_length]; omega) = l[k].1 ∧ (flP l)[k * 3 + 1]'(by rw [flP_length]; omega) = l[k].2.1 ∧ (flP l)[k * 3 + 2]'(by rw [flP_length]; omega) = l[k].2.2 := by
  obtain ⟨h1, h2, h3⟩ := flP_get? h
  exact ⟨(List.getElem?_eq_some_iff.1 h1).2, (List.getElem?_eq_some_iff.1 h2).2, (List.getElem?_eq_some_iff.1 h3).2⟩
/-- The cells from A on are proofs that read ps. -/
def RdP (w : World) (A : Option Addr) (ps : List (List Int × List Int × List Int)) : Prop := RdSS w A (flP ps)
theorem RdP.ext {w w' : World} {A : Option Addr} {ps : List (List Int × List Int × List Int)} (h : RdP w A ps) (hE : Ext w w') : RdP w' A ps := RdSS.ext h hE
theorem RdP.at_ {w : World} {A : Option Addr} {ps : List (List Int × List Int × List Int)} {k : Nat} (h : RdP w A ps) (hk : k < ps.length) :
    ∃ ad, A = some ad ∧ ∃ B n c D m d E i e, w.cell? (ad.add (k * 3)) = some (.slice B n c) ∧ w.cell? ⟨(ad.add (k * 3)).block, (ad.add (k * 3)).off + 1, none⟩ = some (.slice D m d) ∧ w.cell? ⟨(ad.add (k * 3)).block, (ad.add (k * 3)).off + 2, none⟩ = some (.slice E i e) ∧
      SlI w B n c ps[k].1 ∧ SlI w D m d ps[k].2.1 ∧ SlI w E i e ps[k].2.2 := by
  obtain ⟨ad, hA, B, n, c, h1, h2, h3, h4, h5⟩ := RdSS.at_ h (k := k * 3) (by rw [flP_length]; omega)
  obtain ⟨ad', hA', D, m, d, g1, g2, g3, g4, g5⟩ := RdSS.at_ h (k := k * 3 + 1) (by rw [flP_length]; omega)
  obtain ⟨ad'', hA'', E, i, e, f1, f2, f3, f4, f5⟩ := RdSS.at_ h (k := k * 3 + 2) (by rw [flP_length]; omega)
  obtain rfl : ad = ad' := by rw [hA] at hA'; injection hA'
  obtain rfl : ad = ad'' := by rw [hA] at hA''; injection hA''
  rw [(flP_get hk).1] at h2 h3
  rw [(flP_get hk).2.1] at g2 g3
  rw [(flP_get hk).2.2] at f2 f3
  rw [← add_add] at g1 f1
  exact ⟨ad, hA, B, n, c, D, m, d, E, i, e, h1, g1, f1, ⟨h2, h3, h4, h5⟩, ⟨g2, g3, g4, g5⟩, ⟨f2, f3, f4, f5⟩⟩
section
variable {w : World} {a b c d e : Option Addr × Nat × Nat} {l1 l2 l3 l4 l5 : List Int}
theorem RowsRd.three (h : RowsRd w [a, b, c] [l1, l2, l3]) : SlI w a.1 a.2.1 a.2.2 l1 ∧ SlI w b.1 b.2.1 b.2.2 l2 ∧ SlI w c.1 c.2.1 c.2.2 l3 :=
  ⟨h.2 0 (by simp) (by simp), h.2 1 (by simp) (by simp), h.2 2 (by simp) (by simp)⟩
theorem RowsRd.mk3 (h1 : SlI w a.1 a.2.1 a.2.2 l1) (h2 : SlI w b.1 b.2.1 b.2.2 l2) (h3 : SlI w c.1 c.2.1 c.2.2 l3) : RowsRd w [a, b, c] [l1, l2, l3] :=
  ⟨rfl, fun i hi _ => match i, hi with | 0, _ => h1 | 1, _ => h2 | 2, _ => h3⟩
theorem RowsRd.five (h : RowsRd w [a, b, c, d, e] [l1, l2, l3, l4, l5]) : SlI w a.1 a.2.1 a.2.2 l1 ∧ SlI w b.1 b.2.1 b.2.2 l2 ∧ SlI w c.1 c.2.1 c.2.2 l3 ∧ SlI w d.1 d.2.1 d.2.2 l4 ∧ SlI w e.1 e.2.1 e.2.2 l5 :=
  ⟨h.2 0 (by simp) (by simp), h.2 1 (by simp) (by simp), h.2 2 (by simp) (by simp), h.2 3 (by simp) (by simp), h.2 4 (by simp) (by simp)⟩
theorem RowsRd.mk5 (h1 : SlI w a.1 a.2.1 a.2.2 l1) (h2 : SlI w b.1 b.2.1 b.2.2 l2) (h3 : SlI w c.1 c.2.1 c.2.2 l3) (h4 : SlI w d.1 d.2.1 d.2.2 l4) (h5 : SlI w e.1 e.2.1 e.2.2 l5) : RowsRd w [a, b, c, d, e] [l1, l2, l3, l4, l5] :=
  ⟨rfl, fun i hi _ => match i, hi with | 0, _ => h1 | 1, _ => h2 | 2, _ => h3 | 3, _ => h4 | 4, _ => h5⟩
variable {base : Nat}
theorem OwnL.three (h : OwnL w base [a, b, c] [l1, l2, l3]) : OwnI w base 3 a.1 a.2.1 a.2.2 l1 ∧ OwnI w base 3 b.1 b.2.1 b.2.2 l2 ∧ OwnI w base 3 c.1 c.2.1 c.2.2 l3 :=
  ⟨h.own 0 (by simp) (by simp), h.own 1 (by simp) (by simp), h.own 2 (by simp) (by simp)⟩
theorem OwnL.five (h : OwnL w base [a, b, c, d, e] [l1, l2, l3, l4, l5]) : OwnI w base 3 a.1 a.2.1 a.2.2 l1 ∧ OwnI w base 3 b.1 b.2.1 b.2.2 l2 ∧ OwnI w base 3 c.1 c.2.1 c.2.2 l3 ∧ OwnI w base 3 d.1 d.2.1 d.2.2 l4 ∧ OwnI w base 3 e.1 e.2.1 e.2.2 l5 :=
  ⟨h.own 0 (by simp) (by simp), h.own 1 (by simp) (by simp), h.own 2 (by simp) (by simp), h.own 3 (by simp) (by simp), h.own 4 (by simp) (by simp)⟩
end
theorem flP_take {ps : List (List Int × List Int × List Int)} {j : Nat} (hj : j < ps.length) : flP (ps.take (j + 1)) = flP (ps.take j) ++ [ps[j].1, ps[j].2.1, ps[j].2.2] := by
  rw [List.take_succ_eq_append_getElem hj, flP_append]; rfl
theorem totP_succ {ps : List (List Int × List Int × List Int)} {j : Nat} (hj : j < ps.length) : tot (flP (ps.take (j + 1))) = tot (flP (ps.take j)) + (ps[j].1.length + (ps[j].2.1.length + ps[j].2.2.length)) := by
  rw [flP_take hj, tot_append]; simp [tot]
theorem totP_le (ps : List (List Int × List Int × List Int)) (j : Nat) : tot (flP (ps.take j)) ≤ tot (flP ps) := by
  conv => rhs; rw [← List.take_append_drop j ps]
  rw [flP_append, tot_append]; omega
theorem totP_at {ps : List (List Int × List Int × List Int)} {j : Nat} (hj : j < ps.length) : tot (flP (ps.take j)) + (ps[j].1.length + (ps[j].2.1.length + ps[j].2.2.length)) ≤ tot (flP ps) := by
  rw [← totP_succ hj]; exact totP_le _ _
theorem padP_set {ps : List (List Int × List Int × List Int)} {j : Nat} (hj : j < ps.length) : (((flP (ps.take j) ++ List.replicate ((ps.length - j) * 3) []).set (j * 3) ps[j].1).set (j * 3 + 1) ps[j].2.1).set (j * 3 + 2) ps[j].2.2 = flP (ps.take (j + 1)) ++ List.replicate ((ps.length - (j + 1)) * 3) [] := by
  have h1 : (flP (ps.take j)).length = j * 3 := by rw [flP_length, List.length_take]; omega
  have h2 : (ps.length - j) * 3 = (ps.length - (j + 1)) * 3 + 1 + 1 + 1 := by omega
  rw [List.set_append_right _ _ (by omega), h1, Nat.sub_self, h2, List.replicate_succ, List.replicate_succ, List.replicate_succ, List.set_cons_zero, List.set_append_right _ _ (by omega), h1, show j * 3 + 1 - j * 3 = 1 by omega, List.set_cons_succ, List.set_cons_zero,
    List.set_append_right _ _ (by omega), h1, show j * 3 + 2 - j * 3 = 2 by omega, List.set_cons_succ, List.set_cons_succ, List.set_cons_zero, flP_take hj]
  simp
/-- A list of proofs of the call's own; P: all its blocks. -/
def OwnQ (w : World) (base : Nat) (A : Option Addr) (n c : Nat) (P : List Nat) (ps : List (List Int × List Int × List Int)) : Prop := OwnG 3 28 w base A n c P (flP ps)
section
variable {w w' : World} {base n c : Nat} {A : Option Addr} {P fp : List Nat} {ps : List (List Int × List Int × List Int)}
theorem OwnQ.len (h : OwnQ w base A n c P ps) : ps.length = n := by
  have := OwnG.len h
  rw [flP_length] at this; omega
theorem OwnQ.cap (h : OwnQ w base A n c P ps) : n ≤ c ∧ c ≤ maxLen := OwnG.cap h
theorem OwnQ.le (h : OwnQ w base A n c P ps) : n ≤ maxLen := OwnG.le h
theorem OwnQ.rd (h : OwnQ w base A n c P ps) : RdP w A ps := OwnG.rd h
theorem OwnQ.low (h : OwnQ w base A n c P ps) : Low P w.heap.size := OwnG.low h
theorem OwnQ.high (h : OwnQ w base A n c P ps) : High base P := OwnG.high h
theorem OwnQ.only (h : OwnQ w base A n c P ps) (k : Only fp w w') (ha : Apart P fp) : OwnQ w' base A n c P ps := OwnG.only h k ha
theorem OwnQ.ext (h : OwnQ w base A n c P ps) (hb : Ext w w') : OwnQ w' base A n c P ps := OwnG.ext h hb
theorem OwnQ.more {base' : Nat} (h : OwnQ w base A n c P ps) (hb : base' ≤ base) : OwnQ w base' A n c P ps := OwnG.more h hb
end
/-- t is the type of slices of triples of slices. -/
structure ProofSl (P : Program) (t e : TypeId) : Prop where
  ht : P.underlying t = some (.slice e)
  hi : ∃ i, P.info? e = some i ∧ i.zero = some (.agg #[.slice none 0 0, .slice none 0 0, .slice none 0 0]) ∧ i.size = 3 ∧ i.bytes = 72
theorem rep3 (n : Nat) (z : Value) : (madeCells #[z, z, z] (n * 3)).toList = List.replicate (n * 3) z := by
  apply List.ext_getElem?
  intro j
  by_cases hj : j < n * 3
  · rw [List.getElem?_replicate, if_pos hj]
    have : j % 3 = 0 ∨ j % 3 = 1 ∨ j % 3 = 2 := by omega
    rcases this with h | h | h <;> simp [madeCells, hj, h]
  · rw [List.getElem?_eq_none (by simp [madeCells]; omega), List.getElem?_eq_none (by simp; omega)]
/-- 'make([]T, n)'. -/
theorem wpList_mkP {P : Program} {w : World} {ops : Array Oper} {rest : List Oper} {o : Oper} {a : Act} {Q : Exit → Act → World → Prop} {t e : TypeId} (S : ProofSl P t e)
    (hg : o.guard = none) (l c : Operand) (hop : o.op = Op.makeSlice t l c) (kl kc : IntKind) (L C : Int) (n : Nat) (hl : a.eval l = .int kl L) (hc : a.eval c = .int kc C) (hL : L = (n : Int)) (hC : C = (n : Int)) (hn : n ≤ 1000000000)
    (base : Nat) (hb : base ≤ w.heap.size)
    (hK : ∀ w', OwnW 3 w' base e (some ⟨w.heap.size, 0, none⟩) n n (List.replicate (n * 3) (.slice none 0 0)) → Ext w w' → w.heap.size < w'.heap.size → wpList P ops Q rest (a.put o.dst (.slice (some ⟨w.heap.size, 0, none⟩) n n)) w') :
    wpList P ops Q (o :: rest) a w := by
  obtain ⟨i, h2, h3, h4, h5⟩ := S.hi
  refine wpList_make_full (P := P) w hg l c t hop base e i (.agg #[.slice none 0 0, .slice none 0 0, .slice none 0 0]) 3 S.ht h2 h3 h4 kl kc L C n hl hc hL hC (by rw [h5]; omega) (by unfold maxLen; omega) hb fun w' hw hgr => ?_
  have h6 : OwnW 3 w' base e (some ⟨w.heap.size, 0, none⟩) n n (List.replicate (n * 3) (.slice none 0 0)) := by
    unfold OwnW
    rw [← rep3]
    exact hw
  exact hK w' h6 ((Ext.refl w).grown hgr (by simp)) (h6.lt _ rfl).2
end
end
section
section
set_option linter.unusedVariables false
set_option linter.unusedSimpArgs false
section
open Go.ChangeShapes Go.WideShapes Go.ChangeAt Go.RowKit Go.Joins Go.Deep

section
variable {H : Type} {enc : TypeId × Value → H} {P : Program} {w : World} {base : Nat} {spare : Nat → Bool} {held : Bool}

theorem trod_allInts {t : TypeId} {fs : Array Field} (hs : P.underlying t = some (.struct fs)) (hall : allInts P fs = true) {fuel : Nat} {cs : List Value} {x : DataW H × List MemPlace} (hcs : cs.length = fs.size)
    (hf : DataW.trod enc P w base spare held fuel t cs = some x) : ∃ l : List Int, cs = ints l ∧ l.length = fs.size ∧ ∀ n ∈ l, Fits n := by
  simp only [allInts, Bool.and_eq_true] at hall
  obtain ⟨hone, hints⟩ := hall
  obtain ⟨xs, n, _, _, hlen, hxl, hg⟩ := DataW.trod_struct hs hf
  have key : ∀ i, (hi : i < cs.length) → ∃ m : Int, cs[i] = .int .i64 m ∧ Fits m := by
    intro i hi
    have hi' : i < fs.size := by omega
    have hfi : fs[i]? = some fs[i] := Array.getElem?_eq_getElem hi'
    obtain ⟨o, c⟩ := hone_of hone i _ hfi
    have h1 := hg i _ hfi
    rw [o, c] at h1
    have h2 := List.all_eq_true.1 hints i (List.mem_range.2 hi')
    simp only [hfi] at h2
    have ht : P.underlying fs[i].type = some (.int .i64) := by
      split at h2
      · assumption
      · cases h2
    have h3 : (cs.drop i).take 1 = [cs[i]] := by
      rw [List.drop_eq_getElem_cons hi]; rfl
    rw [h3] at h1
    have h4 : xs[i]? = some (xs[i]'(by omega)) := List.getElem?_eq_getElem (by omega)
    rw [h4] at h1
    obtain ⟨m, hm, _, hw⟩ := DataW.trod_int ht h1
    simp only [List.cons.injEq, and_true] at hm
    exact ⟨m, hm, fits_of_wf hw⟩
  refine ⟨cs.map intOf, ?_, by simpa using hcs, ?_⟩
  · rw [ints, List.map_map]
    apply List.ext_getElem (by simp)
    intro i h1 h2
    obtain ⟨m, hm, _⟩ := key i h1
    simp [hm, intOf]
  · intro n hn
    obtain ⟨v, hv, rfl⟩ := List.mem_map.1 hn
    obtain ⟨i, hi, rfl⟩ := List.getElem_of_mem hv
    obtain ⟨m, hm, hw⟩ := key i hi
    simpa [hm, intOf] using hw

theorem openGS2 {r : Reach} {b0 : Nat} {t e : TypeId} {fs : Array Field} {v : Value} {d : DataW H} {p : List MemPlace} (ht : P.underlying t = some (.slice e)) (hs : P.underlying e = some (.struct fs)) (hall : allInts P fs = true) (hC : P.cellsOf e = fs.size) (h2 : fs.size = 2)
    (hv : Value.okWide P w r b0 t v) (h : DataW.Trod enc P w base spare held t v d p) :
    ∃ (A : Option Addr) (l : List (Int × Int)) (c : Nat), v = .slice A l.length c ∧ RdC w A l ∧ l.length ≤ c ∧ c ≤ maxLen ∧ (A = none → c = 0) ∧ ∀ n ∈ l, Fits n.1 ∧ Fits n.2 := by
  obtain ⟨a0, len, cap, rfl⟩ := okWide_slice ht hv
  obtain ⟨fuel, hf⟩ := h
  rcases open_slice ht hf with ⟨hcs, _⟩ | ⟨a, len', cap', m, n, D, Pl, hcs, _, hl, hm, hmm, _, hel⟩
  · simp only [Value.cells, List.cons.injEq, Value.slice.injEq, and_true] at hcs
    obtain ⟨rfl, rfl, rfl⟩ := hcs
    exact ⟨none, [], 0, rfl, .inl rfl, Nat.le_refl _, Nat.zero_le _, fun _ => rfl, by simp⟩
  · simp only [Value.cells, List.cons.injEq, Value.slice.injEq, and_true] at hcs
    obtain ⟨rfl, rfl, rfl⟩ := hcs
    rw [hC, h2] at hel
    have key : ∀ i, i < len → ∃ x y : Int, w.cell? (a.add (i * 2)) = some (.int .i64 x) ∧ w.cell? (a.add (i * 2 + 1)) = some (.int .i64 y) ∧ Fits x ∧ Fits y := by
      intro i hi
      obtain ⟨cs', hc, htr⟩ := hel i (by rw [hmm]; split <;> omega)
      obtain ⟨_, hcl, hat⟩ := World.cells?_some hc
      obtain ⟨l, rfl, hll, hn⟩ := trod_allInts hs hall (by rw [hcl, h2]) htr
      match l, hll.trans h2 with
      | [x, y], _ =>
        refine ⟨x, y, ?_, ?_, hn x (by simp), hn y (by simp)⟩
        · have := hat 0 (by omega); rw [add_add] at this; exact this
        · have := hat 1 (by omega); rw [add_add] at this; exact this
    let g : Nat → Int × Int := fun i => if h : i < len then (Classical.choose (key i h), Classical.choose (Classical.choose_spec (key i h))) else (0, 0)
    have hg : ∀ i, i < len → w.cell? (a.add (i * 2)) = some (.int .i64 (g i).1) ∧ w.cell? (a.add (i * 2 + 1)) = some (.int .i64 (g i).2) ∧ Fits (g i).1 ∧ Fits (g i).2 := by
      intro i hi
      have := Classical.choose_spec (Classical.choose_spec (key i hi))
      simp only [g, hi, dif_pos]
      exact this
    refine ⟨some a, (List.range len).map g, cap, by simp, .inr ⟨a, rfl, ?_⟩, by simpa using hl, hm, by simp, ?_⟩
    · intro j u hu
      have hj := (List.getElem?_eq_some_iff.1 hu).1
      rw [cs2_length, List.length_map, List.length_range] at hj
      obtain ⟨k, hk⟩ : ∃ k, j = k * 2 ∨ j = k * 2 + 1 := ⟨j / 2, by omega⟩
      rcases hk with rfl | rfl
      · rw [(cs2_get (k := k) (by simp; omega)).1] at hu
        simp only [List.getElem_map, List.getElem_range, Option.some.injEq] at hu
        subst hu; exact (hg k (by omega)).1
      · rw [(cs2_get (k := k) (by simp; omega)).2] at hu
        simp only [List.getElem_map, List.getElem_range, Option.some.injEq] at hu
        subst hu; exact (hg k (by omega)).2.1
    · intro q hq
      simp only [List.mem_map, List.mem_range] at hq
      obtain ⟨i, hi, rfl⟩ := hq
      exact (hg i hi).2.2

theorem openISS {r : Reach} {b0 : Nat} {t e q : TypeId} {v : Value} {d : DataW H} {p : List MemPlace} (ht : P.underlying t = some (.slice e)) (he : P.underlying e = some (.slice q)) (hq : P.underlying q = some (.int .i64)) (ce : P.cellsOf e = 1) (cq : P.cellsOf q = 1)
    (hv : Value.okWide P w r b0 t v) (h : DataW.Trod enc P w base (fun _ => true) held t v d p) :
    ∃ (A : Option Addr) (l : List (List Int)) (c : Nat), v = .slice A l.length c ∧ RdSS w A l ∧ l.length ≤ c ∧ c ≤ maxLen ∧ (A = none → c = 0) ∧ ∀ n ∈ l, ∀ k ∈ n, Fits k := by
  obtain ⟨a0, len, cap, rfl⟩ := okWide_slice ht hv
  obtain ⟨fuel, hf⟩ := h
  rcases open_int_rows ht he hq ce cq hf with ⟨hcs, _⟩ | ⟨a, len', cap', A, L, C, Z, hcs, _, hl, hm, _, hr⟩
  · simp only [Value.cells, List.cons.injEq, Value.slice.injEq, and_true] at hcs
    obtain ⟨rfl, rfl, rfl⟩ := hcs
    exact ⟨none, [], 0, rfl, .inl rfl, Nat.le_refl _, Nat.zero_le _, fun _ => rfl, by simp⟩
  · simp only [Value.cells, List.cons.injEq, Value.slice.injEq, and_true] at hcs
    obtain ⟨rfl, rfl, rfl⟩ := hcs
    refine ⟨some a, (List.range len).map fun i => (Z i).take (L i), cap, by simp, .inr ⟨a, rfl, fun k hk => ?_⟩, by simpa using hl, hm, by simp, ?_⟩
    · have hk' : k < len := by simpa using hk
      obtain ⟨h1, h2, h3, h4, h5, h6, h7⟩ := hr k (by omega)
      refine ⟨A k, L k, C k, h1, ?_, ?_, h2, h3⟩
      · rw [List.getElem_map, List.getElem_range]
        cases hA : A k with
        | none =>
          left
          have := h6 hA
          simp [ints, show L k = 0 by omega]
        | some a' =>
          refine .inr ⟨a', rfl, fun j u hu => ?_⟩
          simp only [ints, List.getElem?_map, Option.map_eq_some_iff] at hu
          obtain ⟨x, hx, rfl⟩ := hu
          have hj : j < L k := by
            have := (List.getElem?_eq_some_iff.1 hx).1
            rw [List.length_take] at this; omega
          rw [(h7 a' hA).2 j (by omega)]
          rw [List.getElem?_take_of_lt hj] at hx
          simp [List.getD, hx]
      · rw [List.getElem_map, List.getElem_range, List.length_take]; omega
    · intro n hn k hk
      simp only [List.mem_map, List.mem_range] at hn
      obtain ⟨i, hi, rfl⟩ := hn
      obtain ⟨_, _, _, _, h5, _⟩ := hr i (by omega)
      exact fits_of_wf (h5 k (List.mem_of_mem_take hk))
end
end
section
open Go.ChangeShapes Go.WideShapes Go.ChangeAt Go.RowKit Go.Joins Go.Deep

/-- What is known of a slice that came in. -/
structure InI (w : World) (v : Value) (A : Option Addr) (l : List Int) (c : Nat) : Prop where
  eq : v = .slice A l.length c
  sl : SlI w A l.length c l
  nil : A = none → c = 0
  fits : ∀ n ∈ l, Fits n
def isIntSl (P : Program) (t : TypeId) : Bool := match P.underlying t with
  | some (.slice e) => (match P.underlying e with | some (.int .i64) => P.cellsOf e == 1 | _ => false)
  | _ => false
/-- All fields are slices of ints. -/
def allSls (P : Program) (fs : Array Field) : Bool := oneCellFields P fs && (List.range fs.size).all fun i => match fs[i]? with
  | some f => isIntSl P f.type
  | none => false
section
variable {H : Type} {enc : TypeId × Value → H} {P : Program} {w : World} {base : Nat} {spare : Nat → Bool} {held : Bool}
theorem sl_of_trod {t : TypeId} {fuel : Nat} {v : Value} {x : DataW H × List MemPlace} (ht : isIntSl P t = true) (hf : DataW.trod enc P w base spare held fuel t [v] = some x) : ∃ A l c, InI w v A l c := by
  unfold isIntSl at ht
  split at ht
  case h_2 => cases ht
  case h_1 e h1 =>
    split at ht
    case h_2 => cases ht
    case h_1 h2 =>
      rcases open_ints h1 h2 (by simpa using ht) hf with ⟨hcs, _⟩ | ⟨a, len, cap, zs, hcs, _, hl, hm, hz, _, hcell, hwz⟩
      · simp only [List.cons.injEq, and_true] at hcs
        subst hcs
        exact ⟨none, [], 0, rfl, ⟨.inl rfl, rfl, Nat.le_refl _, Nat.zero_le _⟩, fun _ => rfl, by simp⟩
      · simp only [List.cons.injEq, and_true] at hcs
        subst hcs
        have hzl : len ≤ zs.length := by rw [hz]; split <;> omega
        refine ⟨some a, zs.take len, cap, ?_, ⟨.inr ⟨a, rfl, fun j u hu => ?_⟩, rfl, ?_, hm⟩, by simp, fun n hn => fits_of_wf (hwz n (List.mem_of_mem_take hn))⟩
        · rw [List.length_take, Nat.min_eq_left hzl]
        · simp only [ints, List.getElem?_map, Option.map_eq_some_iff] at hu
          obtain ⟨y, hy, rfl⟩ := hu
          have hj : j < len := by
            have := (List.getElem?_eq_some_iff.1 hy).1
            rw [List.length_take] at this; omega
          rw [hcell j (by omega)]
          rw [List.getElem?_take_of_lt hj] at hy
          simp [List.getD, hy]
        · rw [List.length_take]; omega
theorem sls_of_trod {t : TypeId} {fs : Array Field} (hs : P.underlying t = some (.struct fs)) (hall : allSls P fs = true) {fuel : Nat} {cs : List Value} {x : DataW H × List MemPlace} (hcs : cs.length = fs.size)
    (hf : DataW.trod enc P w base spare held fuel t cs = some x) : ∀ i, (hi : i < cs.length) → ∃ A l c, InI w cs[i] A l c := by
  simp only [allSls, Bool.and_eq_true] at hall
  obtain ⟨hone, hsl⟩ := hall
  obtain ⟨xs, n, _, _, hlen, hxl, hg⟩ := DataW.trod_struct hs hf
  intro i hi
  have hi' : i < fs.size := by omega
  have hfi : fs[i]? = some fs[i] := Array.getElem?_eq_getElem hi'
  obtain ⟨o, c⟩ := hone_of hone i _ hfi
  have h1 := hg i _ hfi
  rw [o, c] at h1
  have h2 := List.all_eq_true.1 hsl i (List.mem_range.2 hi')
  simp only [hfi] at h2
  have h3 : (cs.drop i).take 1 = [cs[i]] := by
    rw [List.drop_eq_getElem_cons hi]; rfl
  rw [h3] at h1
  have h4 : xs[i]? = some (xs[i]'(by omega)) := List.getElem?_eq_getElem (by omega)
  rw [h4] at h1
  exact sl_of_trod h2 h1

/-- A struct of two slices of ints. -/
theorem openKS {r : Reach} {b0 : Nat} {t : TypeId} {fs : Array Field} {v : Value} {d : DataW H} {p : List MemPlace} (hs : P.underlying t = some (.struct fs)) (hall : allSls P fs = true) (hC : P.cellsOf t = fs.size) (h2 : fs.size = 2)
    (hv : Value.okWide P w r b0 t v) (h : DataW.Trod enc P w base spare held t v d p) :
    ∃ (A : Option Addr) (l : List Int) (c : Nat) (B : Option Addr) (k : List Int) (d : Nat), v = .agg #[.slice A l.length c, .slice B k.length d] ∧ SlI w A l.length c l ∧ SlI w B k.length d k := by
  obtain ⟨cs, rfl, hsz⟩ := okWide_struct hs hv
  obtain ⟨fuel, hf⟩ := h
  have hcs : (Value.agg cs).cells.toList.length = fs.size := by
    rw [show (Value.agg cs).cells = cs from rfl, Array.length_toList, hsz, hC]
  have key := sls_of_trod hs hall hcs hf
  have hcs2 : cs.toList.length = 2 := by rw [Array.length_toList, hsz, hC, h2]
  rw [show (Value.agg cs).cells = cs from rfl] at key
  obtain ⟨u, v, huv⟩ : ∃ u v, cs.toList = [u, v] := by
    match hh : cs.toList, hcs2 with
    | [u, v], _ => exact ⟨u, v, rfl⟩
  have he : cs = #[u, v] := by rw [← Array.toList_inj, huv]
  subst he
  obtain ⟨A, l, c, ⟨h1, h3, _, _⟩⟩ := key 0 (by simp)
  obtain ⟨B, k, d, ⟨h4, h5, _, _⟩⟩ := key 1 (by simp)
  simp only [List.getElem_cons_zero, List.getElem_cons_succ] at h1 h4
  subst h1 h4
  exact ⟨A, l, c, B, k, d, rfl, h3, h5⟩

/-- A slice of structs of two slices of ints. -/
theorem openDS {r : Reach} {b0 : Nat} {t e : TypeId} {fs : Array Field} {v : Value} {d : DataW H} {p : List MemPlace} (ht : P.underlying t = some (.slice e)) (hs : P.underlying e = some (.struct fs)) (hall : allSls P fs = true) (hC : P.cellsOf e = fs.size) (h2 : fs.size = 2)
    (hv : Value.okWide P w r b0 t v) (h : DataW.Trod enc P w base spare held t v d p) :
    ∃ (A : Option Addr) (ds : List (List Int × List Int)) (c : Nat), v = .slice A ds.length c ∧ RdD w A ds ∧ ds.length ≤ c ∧ c ≤ maxLen := by
  obtain ⟨a0, len, cap, rfl⟩ := okWide_slice ht hv
  obtain ⟨fuel, hf⟩ := h
  rcases open_slice ht hf with ⟨hcs, _⟩ | ⟨a, len', cap', m, n, D, Pl, hcs, _, hl, hm, hmm, _, hel⟩
  · simp only [Value.cells, List.cons.injEq, Value.slice.injEq, and_true] at hcs
    obtain ⟨rfl, rfl, rfl⟩ := hcs
    exact ⟨none, [], 0, rfl, .inl rfl, Nat.le_refl _, Nat.zero_le _⟩
  · simp only [Value.cells, List.cons.injEq, Value.slice.injEq, and_true] at hcs
    obtain ⟨rfl, rfl, rfl⟩ := hcs
    rw [hC, h2] at hel
    have key : ∀ i, i < len → ∃ q : List Int × List Int, ∃ B n c E k d, w.cell? (a.add (i * 2)) = some (.slice B n c) ∧ w.cell? (a.add (i * 2 + 1)) = some (.slice E k d) ∧ SlI w B n c q.1 ∧ SlI w E k d q.2 := by
      intro i hi
      obtain ⟨cs', hc, htr⟩ := hel i (by rw [hmm]; split <;> omega)
      obtain ⟨_, hcl, hat⟩ := World.cells?_some hc
      have kk := sls_of_trod hs hall (by rw [hcl, h2]) htr
      match cs', hcl with
      | [u, v], _ =>
        obtain ⟨B, l, c, ⟨g1, g3, _, _⟩⟩ := kk 0 (by simp)
        obtain ⟨E, k, d, ⟨g4, g5, _, _⟩⟩ := kk 1 (by simp)
        simp only [List.getElem_cons_zero, List.getElem_cons_succ] at g1 g4
        subst g1 g4
        refine ⟨(l, k), B, l.length, c, E, k.length, d, ?_, ?_, g3, g5⟩
        · have := hat 0 (by omega); rw [add_add] at this; exact this
        · have := hat 1 (by omega); rw [add_add] at this; exact this
    let g : Nat → List Int × List Int := fun i => if h : i < len then Classical.choose (key i h) else ([], [])
    have hg : ∀ i, i < len → ∃ B n c E k d, w.cell? (a.add (i * 2)) = some (.slice B n c) ∧ w.cell? (a.add (i * 2 + 1)) = some (.slice E k d) ∧ SlI w B n c (g i).1 ∧ SlI w E k d (g i).2 := by
      intro i hi
      have := Classical.choose_spec (key i hi)
      simp only [g, hi, dif_pos]
      exact this
    refine ⟨some a, (List.range len).map g, cap, by simp, .inr ⟨a, rfl, ?_⟩, by simpa using hl, hm⟩
    intro j hj
    rw [flD_length, List.length_map, List.length_range] at hj
    obtain ⟨k, hk⟩ : ∃ k, j = k * 2 ∨ j = k * 2 + 1 := ⟨j / 2, by omega⟩
    obtain ⟨B, n1, c1, E, k1, d1, q1, q2, q3, q4⟩ := hg k (by omega)
    have hf2 := flD_get (l := (List.range len).map g) (k := k) (by simp; omega)
    simp only [List.getElem_map, List.getElem_range] at hf2
    rcases hk with rfl | rfl
    · exact ⟨B, n1, c1, q1, by rw [hf2.1]; exact q3.rd, by rw [hf2.1]; exact q3.len, q3.cap, q3.max⟩
    · exact ⟨E, k1, d1, q2, by rw [hf2.2]; exact q4.rd, by rw [hf2.2]; exact q4.len, q4.cap, q4.max⟩
end
end
end
section
set_option linter.unusedVariables false
set_option linter.unusedSimpArgs false
open Go.ChangeShapes Go.WideShapes Go.ChangeAt Go.RowKit Go.Joins Go.Deep

/-- The fields' types and offsets. -/
def fieldsAre (fs : Array Field) (l : List (TypeId × Nat)) : Bool := (fs.toList.map fun f => (f.type, f.offset)) == l
theorem fieldsAre_at {fs : Array Field} {l : List (TypeId × Nat)} (h : fieldsAre fs l = true) {i : Nat} {t : TypeId} {o : Nat} (hl : l[i]? = some (t, o)) : ∃ f, fs[i]? = some f ∧ f.type = t ∧ f.offset = o := by
  unfold fieldsAre at h
  have h1 := eq_of_beq h
  rw [← h1] at hl
  simp only [List.getElem?_map, Option.map_eq_some_iff, Prod.mk.injEq] at hl
  obtain ⟨f, hf, e1, e2⟩ := hl
  exact ⟨f, by simpa using hf, e1, e2⟩
section
variable {H : Type} {enc : TypeId × Value → H} {P : Program} {w : World} {base : Nat} {spare : Nat → Bool} {held : Bool}
/-- One field of a struct, read. -/
theorem field_of_trod {t : TypeId} {fs : Array Field} (hs : P.underlying t = some (.struct fs)) {l : List (TypeId × Nat)} (hF : fieldsAre fs l = true) {fuel : Nat} {cs : List Value} {x : DataW H × List MemPlace}
    (hf : DataW.trod enc P w base spare held fuel t cs = some x) : ∃ n, ∀ (i : Nat) (u : TypeId) (o k : Nat), l[i]? = some (u, o) → P.cellsOf u = k → ∃ y, DataW.trod enc P w base spare held n u ((cs.drop o).take k) = some y := by
  obtain ⟨xs, n, _, _, hlen, hxl, hg⟩ := DataW.trod_struct hs hf
  refine ⟨n, fun i u o k hl hk => ?_⟩
  obtain ⟨f, hfi, e1, e2⟩ := fieldsAre_at hF hl
  have h1 := hg i f hfi
  rw [e1, e2, hk] at h1
  have hi : i < xs.length := by rw [hxl]; exact (Array.getElem?_eq_some_iff.1 hfi).1
  rw [List.getElem?_eq_getElem hi] at h1
  exact ⟨_, h1⟩
theorem three_of_trod {t : TypeId} {fs : Array Field} (hs : P.underlying t = some (.struct fs)) (hall : allSls P fs = true) (h3 : fs.size = 3) {fuel : Nat} {u v z : Value} {x : DataW H × List MemPlace}
    (hf : DataW.trod enc P w base spare held fuel t [u, v, z] = some x) : ∃ A l c B k d C m e, u = .slice A l.length c ∧ v = .slice B k.length d ∧ z = .slice C m.length e ∧ SlI w A l.length c l ∧ SlI w B k.length d k ∧ SlI w C m.length e m := by
  have key := sls_of_trod hs hall (by simp [h3]) hf
  obtain ⟨A, l, c, ⟨h1, h2, _, _⟩⟩ := key 0 (by simp)
  obtain ⟨B, k, d, ⟨g1, g2, _, _⟩⟩ := key 1 (by simp)
  obtain ⟨C, m, e, ⟨f1, f2, _, _⟩⟩ := key 2 (by simp)
  exact ⟨A, l, c, B, k, d, C, m, e, h1, g1, f1, h2, g2, f2⟩
/-- A slice of pairs of ints. -/
theorem ciS_of_trod {t e : TypeId} {fs : Array Field} (ht : P.underlying t = some (.slice e)) (hs : P.underlying e = some (.struct fs)) (hall : allInts P fs = true) (hC : P.cellsOf e = fs.size) (h2 : fs.size = 2) {fuel : Nat} {v : Value} {x : DataW H × List MemPlace}
    (hf : DataW.trod enc P w base spare held fuel t [v] = some x) : ∃ (A : Option Addr) (l : List (Int × Int)) (c : Nat), v = .slice A l.length c ∧ RdC w A l ∧ l.length ≤ c ∧ c ≤ maxLen := by
  obtain ⟨x1, x2⟩ := x
  rcases open_slice ht hf with ⟨hcs, _⟩ | ⟨a, len, cap, m, n, D, Pl, hcs, _, hl, hm, hmm, _, hel⟩
  · simp only [List.cons.injEq, and_true] at hcs
    subst hcs
    exact ⟨none, [], 0, rfl, .inl rfl, Nat.le_refl _, Nat.zero_le _⟩
  · simp only [List.cons.injEq, and_true] at hcs
    subst hcs
    rw [hC, h2] at hel
    have key : ∀ i, i < len → ∃ q : Int × Int, w.cell? (a.add (i * 2)) = some (.int .i64 q.1) ∧ w.cell? (a.add (i * 2 + 1)) = some (.int .i64 q.2) := by
      intro i hi
      obtain ⟨cs', hc, htr⟩ := hel i (by rw [hmm]; split <;> omega)
      obtain ⟨_, hcl, hat⟩ := World.cells?_some hc
      obtain ⟨l, rfl, hll, hn⟩ := trod_allInts hs hall (by rw [hcl, h2]) htr
      match l, hll.trans h2 with
      | [x, y], _ =>
        refine ⟨(x, y), ?_, ?_⟩
        · have := hat 0 (by omega); rw [add_add] at this; exact this
        · have := hat 1 (by omega); rw [add_add] at this; exact this
    let g : Nat → Int × Int := fun i => if h : i < len then Classical.choose (key i h) else (0, 0)
    have hg : ∀ i, i < len → w.cell? (a.add (i * 2)) = some (.int .i64 (g i).1) ∧ w.cell? (a.add (i * 2 + 1)) = some (.int .i64 (g i).2) := by
      intro i hi
      have := Classical.choose_spec (key i hi)
      simp only [g, hi, dif_pos]
      exact this
    refine ⟨some a, (List.range len).map g, cap, by simp, .inr ⟨a, rfl, ?_⟩, by simpa using hl, hm⟩
    intro j u hu
    have hj := (List.getElem?_eq_some_iff.1 hu).1
    rw [cs2_length, List.length_map, List.length_range] at hj
    obtain ⟨k, hk⟩ : ∃ k, j = k * 2 ∨ j = k * 2 + 1 := ⟨j / 2, by omega⟩
    rcases hk with rfl | rfl
    · rw [(cs2_get (k := k) (by simp; omega)).1] at hu
      simp only [List.getElem_map, List.getElem_range, Option.some.injEq] at hu
      subst hu; exact (hg k (by omega)).1
    · rw [(cs2_get (k := k) (by simp; omega)).2] at hu
      simp only [List.getElem_map, List.getElem_range, Option.some.injEq] at hu
      subst hu; exact (hg k (by omega)).2
/-- A slice of structs of three slices of ints. -/
theorem psS_of_trod {t e : TypeId} {fs : Array Field} (ht : P.underlying t = some (.slice e)) (hs : P.underlying e = some (.struct fs)) (hall : allSls P fs = true) (hC : P.cellsOf e = fs.size) (h3 : fs.size = 3) {fuel : Nat} {v : Value} {x : DataW H × List MemPlace}
    (hf : DataW.trod enc P w base spare held fuel t [v] = some x) : ∃ (A : Option Addr) (ps : List (List Int × List Int × List Int)) (c : Nat), v = .slice A ps.length c ∧ RdP w A ps ∧ ps.length ≤ c ∧ c ≤ maxLen := by
  obtain ⟨x1, x2⟩ := x
  rcases open_slice ht hf with ⟨hcs, _⟩ | ⟨a, len, cap, m, n, D, Pl, hcs, _, hl, hm, hmm, _, hel⟩
  · simp only [List.cons.injEq, and_true] at hcs
    subst hcs
    exact ⟨none, [], 0, rfl, .inl rfl, Nat.le_refl _, Nat.zero_le _⟩
  · simp only [List.cons.injEq, and_true] at hcs
    subst hcs
    rw [hC, h3] at hel
    have key : ∀ i, i < len → ∃ q : List Int × List Int × List Int, ∃ B n c E k d F m f, w.cell? (a.add (i * 3)) = some (.slice B n c) ∧ w.cell? (a.add (i * 3 + 1)) = some (.slice E k d) ∧ w.cell? (a.add (i * 3 + 2)) = some (.slice F m f) ∧ SlI w B n c q.1 ∧ SlI w E k d q.2.1 ∧ SlI w F m f q.2.2 := by
      intro i hi
      obtain ⟨cs', hc, htr⟩ := hel i (by rw [hmm]; split <;> omega)
      obtain ⟨_, hcl, hat⟩ := World.cells?_some hc
      match cs', hcl with
      | [u, v, z], _ =>
        obtain ⟨B, l, c, E, k, d, F, m, f, rfl, rfl, rfl, g1, g2, g3⟩ := three_of_trod hs hall h3 htr
        refine ⟨(l, k, m), B, l.length, c, E, k.length, d, F, m.length, f, ?_, ?_, ?_, g1, g2, g3⟩
        · have := hat 0 (by omega); rw [add_add] at this; exact this
        · have := hat 1 (by omega); rw [add_add] at this; exact this
        · have := hat 2 (by omega); rw [add_add] at this; exact this
    let g : Nat → List Int × List Int × List Int := fun i => if h : i < len then Classical.choose (key i h) else ([], [], [])
    have hg : ∀ i, i < len → ∃ B n c E k d F m f, w.cell? (a.add (i * 3)) = some (.slice B n c) ∧ w.cell? (a.add (i * 3 + 1)) = some (.slice E k d) ∧ w.cell? (a.add (i * 3 + 2)) = some (.slice F m f) ∧ SlI w B n c (g i).1 ∧ SlI w E k d (g i).2.1 ∧ SlI w F m f (g i).2.2 := by
      intro i hi
      have := Classical.choose_spec (key i hi)
      simp only [g, hi, dif_pos]
      exact this
    refine ⟨some a, (List.range len).map g, cap, by simp, .inr ⟨a, rfl, ?_⟩, by simpa using hl, hm⟩
    intro j hj
    rw [flP_length, List.length_map, List.length_range] at hj
    obtain ⟨k, hk⟩ : ∃ k, j = k * 3 ∨ j = k * 3 + 1 ∨ j = k * 3 + 2 := ⟨j / 3, by omega⟩
    obtain ⟨B, n1, c1, E, k1, d1, F, m1, f1, q1, q2, q3, q4, q5, q6⟩ := hg k (by omega)
    have hf2 := flP_get (l := (List.range len).map g) (k := k) (by simp; omega)
    simp only [List.getElem_map, List.getElem_range] at hf2
    rcases hk with rfl | rfl | rfl
    · exact ⟨B, n1, c1, q1, by rw [hf2.1]; exact q4.rd, by rw [hf2.1]; exact q4.len, q4.cap, q4.max⟩
    · exact ⟨E, k1, d1, q2, by rw [hf2.2.1]; exact q5.rd, by rw [hf2.2.1]; exact q5.len, q5.cap, q5.max⟩
    · exact ⟨F, m1, f1, q3, by rw [hf2.2.2]; exact q6.rd, by rw [hf2.2.2]; exact q6.len, q6.cap, q6.max⟩
/-- A sealed ballot. -/
theorem openXS {r : Reach} {b0 : Nat} {t ti tc tp tq ec ep : TypeId} {fs fc fp fq : Array Field} {v : Value} {d : DataW H} {p : List MemPlace} (hs : P.underlying t = some (.struct fs)) (hF : fieldsAre fs [(ti, 0), (tc, 1), (tp, 2), (tq, 3)] = true) (hT : P.cellsOf t = 6)
    (hi : P.underlying ti = some (.int .i64)) (hc : P.underlying tc = some (.slice ec)) (hec : P.underlying ec = some (.struct fc)) (hcA : allInts P fc = true) (hcC : P.cellsOf ec = fc.size) (hc2 : fc.size = 2)
    (hp : P.underlying tp = some (.slice ep)) (hep : P.underlying ep = some (.struct fp)) (hpA : allSls P fp = true) (hpC : P.cellsOf ep = fp.size) (hp3 : fp.size = 3)
    (hq : P.underlying tq = some (.struct fq)) (hqA : allSls P fq = true) (hq3 : fq.size = 3) (k0 : P.cellsOf ti = 1) (k1 : P.cellsOf tc = 1) (k2 : P.cellsOf tp = 1) (k3 : P.cellsOf tq = 3)
    (hv : Value.okWide P w r b0 t v) (h : DataW.Trod enc P w base spare held t v d p) :
    ∃ (n : Int) (A : Option Addr) (ci : List (Int × Int)) (c : Nat) (B : Option Addr) (ps : List (List Int × List Int × List Int)) (d : Nat) (C1 : Option Addr) (l1 : List Int) (f1 : Nat) (C2 : Option Addr) (l2 : List Int) (f2 : Nat) (C3 : Option Addr) (l3 : List Int) (f3 : Nat),
      v = .agg #[.int .i64 n, .slice A ci.length c, .slice B ps.length d, .slice C1 l1.length f1, .slice C2 l2.length f2, .slice C3 l3.length f3] ∧ (RdC w A ci ∧ ci.length ≤ c ∧ c ≤ maxLen) ∧ (RdP w B ps ∧ ps.length ≤ d ∧ d ≤ maxLen) ∧ SlI w C1 l1.length f1 l1 ∧ SlI w C2 l2.length f2 l2 ∧ SlI w C3 l3.length f3 l3 := by
  obtain ⟨cs, rfl, hsz⟩ := okWide_struct hs hv
  obtain ⟨fuel, hf⟩ := h
  rw [show (Value.agg cs).cells = cs from rfl] at hf
  have hcs6 : cs.toList.length = 6 := by rw [Array.length_toList, hsz, hT]
  obtain ⟨a0, a1, a2, a3, a4, a5, hl⟩ : ∃ a0 a1 a2 a3 a4 a5, cs.toList = [a0, a1, a2, a3, a4, a5] := by
    match hh : cs.toList, hcs6 with
    | [a0, a1, a2, a3, a4, a5], _ => exact ⟨a0, a1, a2, a3, a4, a5, rfl⟩
  have he : cs = #[a0, a1, a2, a3, a4, a5] := by rw [← Array.toList_inj, hl]
  subst he
  obtain ⟨n, key⟩ := field_of_trod hs hF hf
  obtain ⟨y0, g0⟩ := key 0 ti 0 1 rfl k0
  obtain ⟨y1, g1⟩ := key 1 tc 1 1 rfl k1
  obtain ⟨y2, g2⟩ := key 2 tp 2 1 rfl k2
  obtain ⟨y3, g3⟩ := key 3 tq 3 3 rfl k3
  simp only [List.drop_zero, List.drop_succ_cons, List.take_succ_cons, List.take_zero] at g0 g1 g2 g3
  obtain ⟨m, hm, _, _⟩ := DataW.trod_int hi g0
  simp only [List.cons.injEq, and_true] at hm
  obtain ⟨A, ci, c, e1, h1, h2, h3⟩ := ciS_of_trod hc hec hcA hcC hc2 g1
  obtain ⟨B, ps, d, e2, h4, h5, h6⟩ := psS_of_trod hp hep hpA hpC hp3 g2
  obtain ⟨C1, l1, f1, C2, l2, f2, C3, l3, f3, e3, e4, e5, h7, h8, h9⟩ := three_of_trod hq hqA hq3 g3
  subst hm e1 e2 e3 e4 e5
  exact ⟨m, A, ci, c, B, ps, d, C1, l1, f1, C2, l2, f2, C3, l3, f3, rfl, ⟨h1, h2, h3⟩, ⟨h4, h5, h6⟩, h7, h8, h9⟩
/-- A matrix proof. -/
theorem openMP {r : Reach} {b0 : Nat} {t ta tb tq : TypeId} {fs fq : Array Field} {v : Value} {d : DataW H} {p : List MemPlace} (hs : P.underlying t = some (.struct fs)) (hF : fieldsAre fs [(ta, 0), (tb, 1), (tq, 2)] = true) (hT : P.cellsOf t = 5)
    (ha : isIntSl P ta = true) (hb : isIntSl P tb = true) (hq : P.underlying tq = some (.struct fq)) (hqA : allSls P fq = true) (hq3 : fq.size = 3) (k0 : P.cellsOf ta = 1) (k1 : P.cellsOf tb = 1) (k3 : P.cellsOf tq = 3)
    (hv : Value.okWide P w r b0 t v) (h : DataW.Trod enc P w base spare held t v d p) :
    ∃ (C1 : Option Addr) (l1 : List Int) (f1 : Nat) (C2 : Option Addr) (l2 : List Int) (f2 : Nat) (C3 : Option Addr) (l3 : List Int) (f3 : Nat) (C4 : Option Addr) (l4 : List Int) (f4 : Nat) (C5 : Option Addr) (l5 : List Int) (f5 : Nat),
      v = .agg #[.slice C1 l1.length f1, .slice C2 l2.length f2, .slice C3 l3.length f3, .slice C4 l4.length f4, .slice C5 l5.length f5] ∧ SlI w C1 l1.length f1 l1 ∧ SlI w C2 l2.length f2 l2 ∧ SlI w C3 l3.length f3 l3 ∧ SlI w C4 l4.length f4 l4 ∧ SlI w C5 l5.length f5 l5 := by
  obtain ⟨cs, rfl, hsz⟩ := okWide_struct hs hv
  obtain ⟨fuel, hf⟩ := h
  rw [show (Value.agg cs).cells = cs from rfl] at hf
  have hcs5 : cs.toList.length = 5 := by rw [Array.length_toList, hsz, hT]
  obtain ⟨a0, a1, a2, a3, a4, hl⟩ : ∃ a0 a1 a2 a3 a4, cs.toList = [a0, a1, a2, a3, a4] := by
    match hh : cs.toList, hcs5 with
    | [a0, a1, a2, a3, a4], _ => exact ⟨a0, a1, a2, a3, a4, rfl⟩
  have he : cs = #[a0, a1, a2, a3, a4] := by rw [← Array.toList_inj, hl]
  subst he
  obtain ⟨n, key⟩ := field_of_trod hs hF hf
  obtain ⟨y0, g0⟩ := key 0 ta 0 1 rfl k0
  obtain ⟨y1, g1⟩ := key 1 tb 1 1 rfl k1
  obtain ⟨y3, g3⟩ := key 2 tq 2 3 rfl k3
  simp only [List.drop_zero, List.drop_succ_cons, List.take_succ_cons, List.take_zero] at g0 g1 g3
  obtain ⟨C1, l1, f1, ⟨e1, h1, _, _⟩⟩ := sl_of_trod ha g0
  obtain ⟨C2, l2, f2, ⟨e2, h2, _, _⟩⟩ := sl_of_trod hb g1
  obtain ⟨C3, l3, f3, C4, l4, f4, C5, l5, f5, e3, e4, e5, h7, h8, h9⟩ := three_of_trod hq hqA hq3 g3
  subst e1 e2 e3 e4 e5
  exact ⟨C1, l1, f1, C2, l2, f2, C3, l3, f3, C4, l4, f4, C5, l5, f5, rfl, h1, h2, h7, h8, h9⟩
end
end
end
section
section
open Go.RowKit

end
section
set_option linter.unusedVariables false
set_option linter.unusedSimpArgs false
section
open Go.RowKit

/-- A row more, of a call's own. -/
theorem OwnL.add {w w' : World} {base n c : Nat} {A : Option Addr} {l : List Int} {rs : List (Option Addr × Nat × Nat)} {ls : List (List Int)} (h : OwnL w base rs ls) (E : Ext w w') (O : OwnI w' w.heap.size 3 A n c l) (hb : base ≤ w.heap.size) : OwnL w' base (rs ++ [(A, n, c)]) (ls ++ [l]) :=
  (h.ext E).app (OwnL.one (O.more hb)) (by rw [rowsFp_one]; exact Apart.of_low h.low O.high)
theorem OwnL.cell {w : World} {base : Nat} {rs : List (Option Addr × Nat × Nat)} {ls : List (List Int)} (h : OwnL w base rs ls) {p : Addr} (hp : p.block < base) (u : Value) : OwnL (w.setCell p u) base rs ls :=
  h.only ((Only.refl [p.block] w).setCell (by simp) u) (Apart.of_high (by intro b hb; simp at hb; omega) h.high)
/-- Three rows are laid into their cells. -/
theorem OwnG.lay3 {w : World} {s t base n c g j : Nat} {P : List Nat} {ls : List (List Int)} {B1 B2 B3 : Option Addr} {m1 e1 m2 e2 m3 e3 : Nat} {l1 l2 l3 : List Int} (h : OwnG s t w base (some ⟨g, 0, none⟩) n c P ls) (ht : t ≠ 3) (hj : j + 2 < ls.length) (L : OwnL w base [(B1, m1, e1), (B2, m2, e2), (B3, m3, e3)] [l1, l2, l3]) (hap : Apart (rowsFp [(B1, m1, e1), (B2, m2, e2), (B3, m3, e3)]) P) :
    ∃ P', OwnG s t (((w.setCell ⟨g, j, none⟩ (.slice B1 m1 e1)).setCell ⟨g, j + 1, none⟩ (.slice B2 m2 e2)).setCell ⟨g, j + 2, none⟩ (.slice B3 m3 e3)) base (some ⟨g, 0, none⟩) n c P' (((ls.set j l1).set (j + 1) l2).set (j + 2) l3) := by
  have hgP : g ∈ P := by obtain ⟨rs, _, _, rfl⟩ := h; exact List.mem_append_left _ (by simp [fpI])
  have a12 : Apart (fpI B1) (fpI B2) := rowsFp_apart (i := 0) (j := 1) L.nd (by simp) (by simp) (by omega)
  have a13 : Apart (fpI B1) (fpI B3) := rowsFp_apart (i := 0) (j := 2) L.nd (by simp) (by simp) (by omega)
  have a23 : Apart (fpI B2) (fpI B3) := rowsFp_apart (i := 1) (j := 2) L.nd (by simp) (by simp) (by omega)
  have p1 : Apart (fpI B1) P := fun b hb => hap b (rowsFp_mem.2 ⟨(B1, m1, e1), by simp, hb⟩)
  have p2 : Apart (fpI B2) P := fun b hb => hap b (rowsFp_mem.2 ⟨(B2, m2, e2), by simp, hb⟩)
  have p3 : Apart (fpI B3) P := fun b hb => hap b (rowsFp_mem.2 ⟨(B3, m3, e3), by simp, hb⟩)
  have hg : Apart (rowsFp [(B1, m1, e1), (B2, m2, e2), (B3, m3, e3)]) [g] := fun b hb hb' => by
    rw [List.mem_singleton] at hb'; subst hb'; exact hap b hb hgP
  obtain ⟨P1, h1, k1⟩ := h.lay ht (j := j) (by omega) L.three.1 p1
  have L1 := L.only ((Only.refl [g] w).setCell (p := ⟨g, j, none⟩) (by simp) (.slice B1 m1 e1)) hg
  obtain ⟨P2, h2, k2⟩ := h1.lay ht (j := j + 1) (by rw [List.length_set]; omega) L1.three.2.1 (fun b hb hb' => (k1 b hb').elim (p2 b hb) (fun hx => a12 b hx hb))
  have L2 := L1.only ((Only.refl [g] _).setCell (p := ⟨g, j + 1, none⟩) (by simp) (.slice B2 m2 e2)) hg
  obtain ⟨P3, h3, _⟩ := h2.lay ht (j := j + 2) (by rw [List.length_set, List.length_set]; omega) L2.three.2.2 (fun b hb hb' => (k2 b hb').elim (fun hx => (k1 b hx).elim (p3 b hb) (fun hy => a13 b hy hb)) (fun hx => a23 b hx hb))
  exact ⟨P3, h3⟩
set_option maxHeartbeats 2000000 in
theorem eqProof_same {A1 : Option Addr} {n1 c1 : Nat} {A2 : Option Addr} {n2 c2 : Nat} {A3 : Option Addr} {n3 c3 : Nat} {B1 : Option Addr} {m1 e1 : Nat} {B2 : Option Addr} {m2 e2 : Nat} {B3 : Option Addr} {m3 e3 : Nat} {l1 l2 l3 : List Int} {w : World} (h1 : SlI w A1 n1 c1 l1) (h2 : SlI w A2 n2 c2 l2) (h3 : SlI w A3 n3 c3 l3) (k1 : SlI w B1 m1 e1 l1) (k2 : SlI w B2 m2 e2 l2) (k3 : SlI w B3 m3 e3 l3) :
    Calls Tryz.prog 27 #[.agg #[.slice A1 n1 c1, .slice A2 n2 c2, .slice A3 n3 c3], .agg #[.slice B1 m1 e1, .slice B2 m2 e2, .slice B3 m3 e3]] w fun e w' => e = .returned (.bool true) ∧ Ext w w' := by
  have E := ((Ext.refl w).alloc (.cells #[.slice A1 n1 c1, .slice A2 n2 c2, .slice A3 n3 c3] 28)).alloc (.cells #[.slice B1 m1 e1, .slice B2 m2 e2, .slice B3 m3 e3] 28)
  have B0 := (Blk.new w 28 #[.slice A1 n1 c1, .slice A2 n2 c2, .slice A3 n3 c3]).alloc (.cells #[.slice B1 m1 e1, .slice B2 m2 e2, .slice B3 m3 e3] 28)
  have B1 := Blk.new (w.alloc (.cells #[.slice A1 n1 c1, .slice A2 n2 c2, .slice A3 n3 c3] 28)) 28 #[.slice B1 m1 e1, .slice B2 m2 e2, .slice B3 m3 e3]
  simp only [World.size_alloc] at B1
  have q0 := B0.cells
  have q1 := B1.cells
  go_enter Tryz.func27, Tryz.ntmps27
  go_wp2_with fail
  refine (eqIntS_same (h1.rd.ext E) (k1.rd.ext E) h1.len k1.len h1.le k1.le).mono ?_
  rintro e w1 ⟨rfl, e1⟩
  clear q0 q1
  replace B0 := B0.ext e1
  replace B1 := B1.ext e1
  have q0 := B0.cells
  have q1 := B1.cells
  replace E := E.trans e1
  clear e1
  go_wp2_with fail
  refine (eqIntS_same (h2.rd.ext E) (k2.rd.ext E) h2.len k2.len h2.le k2.le).mono ?_
  rintro e w2 ⟨rfl, e1⟩
  clear q0 q1
  replace B0 := B0.ext e1
  replace B1 := B1.ext e1
  have q0 := B0.cells
  have q1 := B1.cells
  replace E := E.trans e1
  clear e1
  go_wp2_with fail
  refine (eqIntS_same (h3.rd.ext E) (k3.rd.ext E) h3.len k3.len h3.le k3.le).mono ?_
  rintro e w3 ⟨rfl, e1⟩
  clear q0 q1
  replace B0 := B0.ext e1
  replace B1 := B1.ext e1
  have q0 := B0.cells
  have q1 := B1.cells
  replace E := E.trans e1
  clear e1
  go_wp2
  go_ret
  exact ⟨rfl, E⟩
set_option maxHeartbeats 2000000 in
theorem markProof_any {A1 : Option Addr} {n1 c1 : Nat} {A2 : Option Addr} {n2 c2 : Nat} {A3 : Option Addr} {n3 c3 : Nat} {l1 l2 l3 : List Int} {base : Nat} {z : Int} {w : World} (h : OwnL w base [(A1, n1, c1), (A2, n2, c2), (A3, n3, c3)] [l1, l2, l3]) (hz : 0 ≤ z) (hn : z + n1 + n2 + n3 ≤ 1000000000) :
    Calls Tryz.prog 29 #[.agg #[.slice A1 n1 c1, .slice A2 n2 c2, .slice A3 n3 c3], .int .i64 z] w fun e w' => e = .returned (.int .i64 (z + n1 + n2 + n3)) ∧ OwnL w' base [(A1, n1, c1), (A2, n2, c2), (A3, n3, c3)] [iota z n1, iota (z + n1) n2, iota (z + n1 + n2) n3] ∧ Only (rowsFp [(A1, n1, c1), (A2, n2, c2), (A3, n3, c3)]) w w' := by
  have B0 := Blk.new w 28 #[.slice A1 n1 c1, .slice A2 n2 c2, .slice A3 n3 c3]
  have E := (Ext.refl w).alloc (.cells #[.slice A1 n1 c1, .slice A2 n2 c2, .slice A3 n3 c3] 28)
  have low := h.low
  have h' := h.ext E
  have hb := E.toOnly (rowsFp [(A1, n1, c1), (A2, n2, c2), (A3, n3, c3)])
  go_enter Tryz.func29, Tryz.ntmps29
  have q0 := B0.cells
  obtain ⟨o1, o2, o3⟩ := h'.three
  go_wp2_with fail
  refine (markIntS_any o1 (by omega) (by omega)).mono ?_
  rintro e w1 ⟨rfl, hm, hO⟩
  replace h' := h'.turn (j := 0) (by simp) hm hO
  simp only [List.set_cons_zero, List.set_cons_succ] at h'
  have hO' := hO.mono (fp' := rowsFp [(A1, n1, c1), (A2, n2, c2), (A3, n3, c3)]) (fun b hb => rowsFp_mem.2 ⟨[(A1, n1, c1), (A2, n2, c2), (A3, n3, c3)][0], by simp, hb⟩)
  replace hb := hb.thenOnly hO'
  replace B0 := B0.only hO' (fun hh => absurd (low _ hh) (by omega))
  clear q0 o1 o2 o3 hm hO hO'
  have q0 := B0.cells
  obtain ⟨o1, o2, o3⟩ := h'.three
  go_wp2_with fail
  refine (markIntS_any o2 (by omega) (by omega)).mono ?_
  rintro e w2 ⟨rfl, hm, hO⟩
  replace h' := h'.turn (j := 1) (by simp) hm hO
  simp only [List.set_cons_zero, List.set_cons_succ] at h'
  have hO' := hO.mono (fp' := rowsFp [(A1, n1, c1), (A2, n2, c2), (A3, n3, c3)]) (fun b hb => rowsFp_mem.2 ⟨[(A1, n1, c1), (A2, n2, c2), (A3, n3, c3)][1], by simp, hb⟩)
  replace hb := hb.thenOnly hO'
  replace B0 := B0.only hO' (fun hh => absurd (low _ hh) (by omega))
  clear q0 o1 o2 o3 hm hO hO'
  have q0 := B0.cells
  obtain ⟨o1, o2, o3⟩ := h'.three
  go_wp2_with fail
  refine (markIntS_any o3 (by omega) (by omega)).mono ?_
  rintro e w3 ⟨rfl, hm, hO⟩
  replace h' := h'.turn (j := 2) (by simp) hm hO
  simp only [List.set_cons_zero, List.set_cons_succ] at h'
  have hO' := hO.mono (fp' := rowsFp [(A1, n1, c1), (A2, n2, c2), (A3, n3, c3)]) (fun b hb => rowsFp_mem.2 ⟨[(A1, n1, c1), (A2, n2, c2), (A3, n3, c3)][2], by simp, hb⟩)
  replace hb := hb.thenOnly hO'
  replace B0 := B0.only hO' (fun hh => absurd (low _ hh) (by omega))
  clear q0 o1 o2 o3 hm hO hO'
  have q0 := B0.cells
  go_wp2
  go_ret
  exact ⟨rfl, h', hb⟩
end
section
open Go.RowKit

theorem OwnC.cell {w : World} {base e n c : Nat} {A : Option Addr} {l : List (Int × Int)} (h : OwnC w base e A n c l) {p : Addr} (hp : p.block < base) (u : Value) : OwnC (w.setCell p u) base e A n c l :=
  h.only ((Only.refl [p.block] w).setCell (by simp) u) (Apart.of_high (by intro b hb; simp at hb; omega) h.high)
theorem OwnQ.cell {w : World} {base n c : Nat} {A : Option Addr} {P : List Nat} {ps : List (List Int × List Int × List Int)} (h : OwnQ w base A n c P ps) {p : Addr} (hp : p.block < base) (u : Value) : OwnQ (w.setCell p u) base A n c P ps :=
  h.only ((Only.refl [p.block] w).setCell (by simp) u) (Apart.of_high (by intro b hb; simp at hb; omega) h.high)
/-- A sealed ballot of the call's own: its ciphertexts, its proofs, its last proof. -/
structure OwnX (w : World) (base : Nat) (A : Option Addr) (n c : Nat) (B : Option Addr) (m d : Nat) (P : List Nat) (rs : List (Option Addr × Nat × Nat)) (ci : List (Int × Int)) (ps : List (List Int × List Int × List Int)) (ls : List (List Int)) : Prop where
  c : OwnC w base 54 A n c ci
  q : OwnQ w base B m d P ps
  s : OwnL w base rs ls
  cq : Apart (fpI A) P
  cs : Apart (fpI A) (rowsFp rs)
  qs : Apart P (rowsFp rs)
section
variable {w w' : World} {base n c m d : Nat} {A B : Option Addr} {P fp : List Nat} {rs : List (Option Addr × Nat × Nat)} {ci : List (Int × Int)} {ps : List (List Int × List Int × List Int)} {ls : List (List Int)}
theorem OwnX.ext (h : OwnX w base A n c B m d P rs ci ps ls) (hb : Ext w w') : OwnX w' base A n c B m d P rs ci ps ls := ⟨h.c.ext hb, h.q.ext hb, h.s.ext hb, h.cq, h.cs, h.qs⟩
theorem OwnX.more {base' : Nat} (h : OwnX w base A n c B m d P rs ci ps ls) (hb : base' ≤ base) : OwnX w base' A n c B m d P rs ci ps ls := ⟨h.c.more hb, h.q.more hb, h.s.more hb, h.cq, h.cs, h.qs⟩
theorem OwnX.low (h : OwnX w base A n c B m d P rs ci ps ls) : Low (fpI A ++ (P ++ rowsFp rs)) w.heap.size := fun b hb => (List.mem_append.1 hb).elim (h.c.low b) fun hb => (List.mem_append.1 hb).elim (h.q.low b) (h.s.low b)
theorem OwnX.high (h : OwnX w base A n c B m d P rs ci ps ls) : High base (fpI A ++ (P ++ rowsFp rs)) := fun b hb => (List.mem_append.1 hb).elim (h.c.high b) fun hb => (List.mem_append.1 hb).elim (h.q.high b) (h.s.high b)
end
set_option maxHeartbeats 1000000 in
theorem markCipherX_any {A : Option Addr} {n c base : Nat} {l : List (Int × Int)} {k : Int} {w : World} (ha : OwnC w base 54 A n c l) (hk : 0 ≤ k) (hn : k + 2 * n ≤ 1000000000) :
    Calls Tryz.prog 13 #[.slice A n c, .int .i64 k] w fun e w' => e = .returned (.int .i64 (k + 2 * n)) ∧ OwnC w' base 54 A n c (iota2 k n) ∧ Only (fpI A) w w' := by
  have HL := Lib.hid ha.len
  go_enter Tryz.func13, Tryz.ntmps13
  go_wp2
  go_loopw [1, 5] (fun q i wr => ∃ j : Nat, j ≤ n ∧ i = .int .i64 j ∧ q = .int .i64 (k + 2 * j) ∧ OwnC wr base 54 A n c (iota2 k j ++ l.drop j) ∧ Only (fpI A) w wr) (fun _ i _ => n - (intOf i).toNat)
  case atStart => exact ⟨0, Nat.zero_le _, rfl, by simp, ha, Only.refl _ _⟩
  case round =>
    obtain ⟨j, hj, rfl, rfl, hO, hB⟩ := hrel
    by_cases hlt : j < n
    · obtain ⟨g, rfl, hg⟩ := hO.addr (by omega)
      have hlj : j < l.length := by rw [HL.out]; exact hlt
      obtain ⟨h1, h2, h3⟩ := hO.at0 j (by rw [List.length_append, iota2_length, List.length_drop]; omega)
      have hf1 := h3 (j * 2)
      have hf2 := h3 (j * 2 + 1)
      have hO' := hO.set j (k + 2 * j) (k + 2 * j + 1)
      rw [iota2_set hlj] at hO'
      clear h3
      go_wp2
      go_roundw
      case rel => exact ⟨j + 1, by omega, by go_num, by go_num, hO', (hB.setCell (p := ⟨g, j * 2, none⟩) (by simp [fpI]) _).setCell (p := ⟨g, j * 2 + 1, none⟩) (by simp [fpI]) _⟩
      case measure => simp [intOf]; omega
    · obtain rfl : j = n := by omega
      go_wp2
      go_ret
      refine ⟨rfl, ?_, hB⟩
      rw [List.drop_eq_nil_of_le (by rw [HL.out]; exact Nat.le_refl _), List.append_nil] at hO
      exact hO
set_option maxHeartbeats 4000000 in
theorem eqMatrixProof_same {C1 : Option Addr} {k1 f1 : Nat} {C2 : Option Addr} {k2 f2 : Nat} {C3 : Option Addr} {k3 f3 : Nat} {C4 : Option Addr} {k4 f4 : Nat} {C5 : Option Addr} {k5 f5 : Nat} {C1' : Option Addr} {k1' f1' : Nat} {C2' : Option Addr} {k2' f2' : Nat} {C3' : Option Addr} {k3' f3' : Nat} {C4' : Option Addr} {k4' f4' : Nat} {C5' : Option Addr} {k5' f5' : Nat} {l1 l2 l3 l4 l5 : List Int} {w : World} (h1 : SlI w C1 k1 f1 l1) (h2 : SlI w C2 k2 f2 l2) (h3 : SlI w C3 k3 f3 l3) (h4 : SlI w C4 k4 f4 l4) (h5 : SlI w C5 k5 f5 l5) (g1 : SlI w C1' k1' f1' l1) (g2 : SlI w C2' k2' f2' l2) (g3 : SlI w C3' k3' f3' l3) (g4 : SlI w C4' k4' f4' l4) (g5 : SlI w C5' k5' f5' l5) :
    Calls Tryz.prog 10 #[.agg #[.slice C1 k1 f1, .slice C2 k2 f2, .slice C3 k3 f3, .slice C4 k4 f4, .slice C5 k5 f5], .agg #[.slice C1' k1' f1', .slice C2' k2' f2', .slice C3' k3' f3', .slice C4' k4' f4', .slice C5' k5' f5']] w fun e w' => e = .returned (.bool true) ∧ Ext w w' := by
  have E := ((Ext.refl w).alloc (.cells #[.slice C1 k1 f1, .slice C2 k2 f2, .slice C3 k3 f3, .slice C4 k4 f4, .slice C5 k5 f5] 30)).alloc (.cells #[.slice C1' k1' f1', .slice C2' k2' f2', .slice C3' k3' f3', .slice C4' k4' f4', .slice C5' k5' f5'] 30)
  have B0 := (Blk.new w 30 #[.slice C1 k1 f1, .slice C2 k2 f2, .slice C3 k3 f3, .slice C4 k4 f4, .slice C5 k5 f5]).alloc (.cells #[.slice C1' k1' f1', .slice C2' k2' f2', .slice C3' k3' f3', .slice C4' k4' f4', .slice C5' k5' f5'] 30)
  have B1 := Blk.new (w.alloc (.cells #[.slice C1 k1 f1, .slice C2 k2 f2, .slice C3 k3 f3, .slice C4 k4 f4, .slice C5 k5 f5] 30)) 30 #[.slice C1' k1' f1', .slice C2' k2' f2', .slice C3' k3' f3', .slice C4' k4' f4', .slice C5' k5' f5']
  simp only [World.size_alloc] at B1
  have q0 := B0.cells
  have q1 := B1.cells
  go_enter Tryz.func10, Tryz.ntmps10
  go_wp2_with fail
  refine (eqIntS_same (h1.rd.ext E) (g1.rd.ext E) h1.len g1.len h1.le g1.le).mono ?_
  rintro e w1 ⟨rfl, e1⟩
  clear q0 q1
  replace B0 := B0.ext e1
  replace B1 := B1.ext e1
  have q0 := B0.cells
  have q1 := B1.cells
  replace E := E.trans e1
  clear e1
  generalize w1 = w0 at *
  go_wp2_with fail
  refine (eqIntS_same (h2.rd.ext E) (g2.rd.ext E) h2.len g2.len h2.le g2.le).mono ?_
  rintro e w1 ⟨rfl, e1⟩
  clear q0 q1
  replace B0 := B0.ext e1
  replace B1 := B1.ext e1
  have q0 := B0.cells
  have q1 := B1.cells
  replace E := E.trans e1
  clear e1
  generalize w1 = w0 at *
  go_wp2_with fail
  refine (eqProof_same (h3.ext E) (h4.ext E) (h5.ext E) (g3.ext E) (g4.ext E) (g5.ext E)).mono ?_
  rintro e w1 ⟨rfl, e1⟩
  clear q0 q1
  replace B0 := B0.ext e1
  replace B1 := B1.ext e1
  have q0 := B0.cells
  have q1 := B1.cells
  replace E := E.trans e1
  clear e1
  generalize w1 = w0 at *
  go_wp2
  go_ret
  exact ⟨rfl, E⟩
end
end
end
end Go.Proofs.YtnhdohjlbchniaaGreat
