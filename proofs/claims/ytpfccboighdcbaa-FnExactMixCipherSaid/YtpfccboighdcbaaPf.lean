/- Proofs: structs of three slices of ints, lists of them. -/
import Derived.Test.YtpfccboighdcbaaProg
import Derived.Test.YtpfccboighdcbaaRw
import Derived.Test.YtpfccboighdcbaaToSS
namespace Go.Proofs.Ytpfccboighdcbaa
open Go.RowKit

/-- The rows of a list of proofs, one behind the other. -/
def flP (ps : List (List Int × List Int × List Int)) : List (List Int) := ps.flatMap fun p => [p.1, p.2.1, p.2.2]
theorem flP_append (l m : List (List Int × List Int × List Int)) : flP (l ++ m) = flP l ++ flP m := by simp [flP]
theorem flP_length (ps : List (List Int × List Int × List Int)) : (flP ps).length = ps.length * 3 := by
  induction ps with
  | nil => rfl
  | cons p l ih => simp only [flP, List.flatMap_cons, List.length_append] at *; simp [ih]; omega
theorem flP_get? {l : List (List Int × List Int × List Int)} {k : Nat} (h : k < l.length) : (flP l)[k * 3]? = some l[k].1 ∧ (flP l)[k * 3 + 1]? = some l[k].2.1 ∧ (flP l)[k * 3 + 2]? = some l[k].2.2 := by
  induction l generalizing k with
  | nil => simp at h
  | cons p l ih =>
    have e : flP (p :: l) = p.1 :: p.2.1 :: p.2.2 :: flP l := rfl
    match k with
    | 0 => rw [e]; exact ⟨rfl, rfl, rfl⟩
    | k + 1 =>
      obtain ⟨h1, h2, h3⟩ := ih (k := k) (by simpa using h)
      rw [e, show (k + 1) * 3 = k * 3 + 1 + 1 + 1 by omega]
      simp only [List.getElem?_cons_succ, List.getElem_cons_succ]
      exact ⟨h1, h2, h3⟩
theorem flP_get {l : List (List Int × List Int × List Int)} {k : Nat} (h : k < l.length) : (flP l)[k * 3]'(by rw [flP_length]; omega) = l[k].1 ∧ (flP l)[k * 3 + 1]'(by rw [flP_length]; omega) = l[k].2.1 ∧ (flP l)[k * 3 + 2]'(by rw [flP_length]; omega) = l[k].2.2 := by
  obtain ⟨h1, h2, h3⟩ := flP_get? h
  exact ⟨(List.getElem?_eq_some_iff.1 h1).2, (List.getElem?_eq_some_iff.1 h2).2, (List.getElem?_eq_some_iff.1 h3).2⟩
/-- The cells from A on are proofs that read ps. -/
def RdP (w : World) (A : Option Addr) (ps : List (List Int × List Int × List Int)) : Prop := RdSS w A (flP ps)
theorem RdP.ext {w w' : World} {A : Option Addr} {ps : List (List Int × List Int × List Int)} (h : RdP w A ps) (hE : Ext w w') : RdP w' A ps := RdSS.ext h hE
theorem RdP.at_ {w : World} {A : Option Addr} {ps : List (List Int × List Int × List Int)} {k : Nat} (h : RdP w A ps) (hk : k < ps.length) :
    ∃ ad, A = some ad ∧ ∃ B n c D m d E i e, w.cell? (ad.add (k * 3)) = some (.slice B n c) ∧ w.cell? ⟨(ad.add (k * 3)).block, (ad.add (k * 3)).off + 1, none⟩ = some (.slice D m d) ∧ w.cell? ⟨(ad.add (k * 3)).block, (ad.add (k * 3)).off + 2, none⟩ = some (.slice E i e) ∧
      SlI w B n c ps[k].1 ∧ SlI w D m d ps[k].2.1 ∧ SlI w E i e ps[k].2.2 := by
  obtain ⟨ad, hA, B, n, c, h1, h2, h3, h4, h5⟩ := RdSS.at_ h (k := k * 3) (by rw [flP_length]; omega)
  obtain ⟨ad', hA', D, m, d, g1, g2, g3, g4, g5⟩ := RdSS.at_ h (k := k * 3 + 1) (by rw [flP_length]; omega)
  obtain ⟨ad'', hA'', E, i, e, f1, f2, f3, f4, f5⟩ := RdSS.at_ h (k := k * 3 + 2) (by rw [flP_length]; omega)
  obtain rfl : ad = ad' := by rw [hA] at hA'; injection hA'
  obtain rfl : ad = ad'' := by rw [hA] at hA''; injection hA''
  rw [(flP_get hk).1] at h2 h3
  rw [(flP_get hk).2.1] at g2 g3
  rw [(flP_get hk).2.2] at f2 f3
  rw [← add_add] at g1 f1
  exact ⟨ad, hA, B, n, c, D, m, d, E, i, e, h1, g1, f1, ⟨h2, h3, h4, h5⟩, ⟨g2, g3, g4, g5⟩, ⟨f2, f3, f4, f5⟩⟩
section
variable {w : World} {a b c d e : Option Addr × Nat × Nat} {l1 l2 l3 l4 l5 : List Int}
theorem RowsRd.three (h : RowsRd w [a, b, c] [l1, l2, l3]) : SlI w a.1 a.2.1 a.2.2 l1 ∧ SlI w b.1 b.2.1 b.2.2 l2 ∧ SlI w c.1 c.2.1 c.2.2 l3 :=
  ⟨h.2 0 (by simp) (by simp), h.2 1 (by simp) (by simp), h.2 2 (by simp) (by simp)⟩
theorem RowsRd.mk3 (h1 : SlI w a.1 a.2.1 a.2.2 l1) (h2 : SlI w b.1 b.2.1 b.2.2 l2) (h3 : SlI w c.1 c.2.1 c.2.2 l3) : RowsRd w [a, b, c] [l1, l2, l3] :=
  ⟨rfl, fun i hi _ => match i, hi with | 0, _ => h1 | 1, _ => h2 | 2, _ => h3⟩
theorem RowsRd.five (h : RowsRd w [a, b, c, d, e] [l1, l2, l3, l4, l5]) : SlI w a.1 a.2.1 a.2.2 l1 ∧ SlI w b.1 b.2.1 b.2.2 l2 ∧ SlI w c.1 c.2.1 c.2.2 l3 ∧ SlI w d.1 d.2.1 d.2.2 l4 ∧ SlI w e.1 e.2.1 e.2.2 l5 :=
  ⟨h.2 0 (by simp) (by simp), h.2 1 (by simp) (by simp), h.2 2 (by simp) (by simp), h.2 3 (by simp) (by simp), h.2 4 (by simp) (by simp)⟩
theorem RowsRd.mk5 (h1 : SlI w a.1 a.2.1 a.2.2 l1) (h2 : SlI w b.1 b.2.1 b.2.2 l2) (h3 : SlI w c.1 c.2.1 c.2.2 l3) (h4 : SlI w d.1 d.2.1 d.2.2 l4) (h5 : SlI w e.1 e.2.1 e.2.2 l5) : RowsRd w [a, b, c, d, e] [l1, l2, l3, l4, l5] :=
  ⟨rfl, fun i hi _ => match i, hi with | 0, _ => h1 | 1, _ => h2 | 2, _ => h3 | 3, _ => h4 | 4, _ => h5⟩
variable {base : Nat}
theorem OwnL.three (h : OwnL w base [a, b, c] [l1, l2, l3]) : OwnI w base 3 a.1 a.2.1 a.2.2 l1 ∧ OwnI w base 3 b.1 b.2.1 b.2.2 l2 ∧ OwnI w base 3 c.1 c.2.1 c.2.2 l3 :=
  ⟨h.own 0 (by simp) (by simp), h.own 1 (by simp) (by simp), h.own 2 (by simp) (by simp)⟩
theorem OwnL.five (h : OwnL w base [a, b, c, d, e] [l1, l2, l3, l4, l5]) : OwnI w base 3 a.1 a.2.1 a.2.2 l1 ∧ OwnI w base 3 b.1 b.2.1 b.2.2 l2 ∧ OwnI w base 3 c.1 c.2.1 c.2.2 l3 ∧ OwnI w base 3 d.1 d.2.1 d.2.2 l4 ∧ OwnI w base 3 e.1 e.2.1 e.2.2 l5 :=
  ⟨h.own 0 (by simp) (by simp), h.own 1 (by simp) (by simp), h.own 2 (by simp) (by simp), h.own 3 (by simp) (by simp), h.own 4 (by simp) (by simp)⟩
end
theorem flP_take {ps : List (List Int × List Int × List Int)} {j : Nat} (hj : j < ps.length) : flP (ps.take (j + 1)) = flP (ps.take j) ++ [ps[j].1, ps[j].2.1, ps[j].2.2] := by
  rw [List.take_succ_eq_append_getElem hj, flP_append]; rfl
theorem totP_succ {ps : List (List Int × List Int × List Int)} {j : Nat} (hj : j < ps.length) : tot (flP (ps.take (j + 1))) = tot (flP (ps.take j)) + (ps[j].1.length + (ps[j].2.1.length + ps[j].2.2.length)) := by
  rw [flP_take hj, tot_append]; simp [tot]
theorem totP_le (ps : List (List Int × List Int × List Int)) (j : Nat) : tot (flP (ps.take j)) ≤ tot (flP ps) := by
  conv => rhs; rw [← List.take_append_drop j ps]
  rw [flP_append, tot_append]; omega
theorem totP_at {ps : List (List Int × List Int × List Int)} {j : Nat} (hj : j < ps.length) : tot (flP (ps.take j)) + (ps[j].1.length + (ps[j].2.1.length + ps[j].2.2.length)) ≤ tot (flP ps) := by
  rw [← totP_succ hj]; exact totP_le _ _
theorem padP_set {ps : List (List Int × List Int × List Int)} {j : Nat} (hj : j < ps.length) : (((flP (ps.take j) ++ List.replicate ((ps.length - j) * 3) []).set (j * 3) ps[j].1).set (j * 3 + 1) ps[j].2.1).set (j * 3 + 2) ps[j].2.2 = flP (ps.take (j + 1)) ++ List.replicate ((ps.length - (j + 1)) * 3) [] := by
  have h1 : (flP (ps.take j)).length = j * 3 := by rw [flP_length, List.length_take]; omega
  have h2 : (ps.length - j) * 3 = (ps.length - (j + 1)) * 3 + 1 + 1 + 1 := by omega
  rw [List.set_append_right _ _ (by omega), h1, Nat.sub_self, h2, List.replicate_succ, List.replicate_succ, List.replicate_succ, List.set_cons_zero, List.set_append_right _ _ (by omega), h1, show j * 3 + 1 - j * 3 = 1 by omega, List.set_cons_succ, List.set_cons_zero,
    List.set_append_right _ _ (by omega), h1, show j * 3 + 2 - j * 3 = 2 by omega, List.set_cons_succ, List.set_cons_succ, List.set_cons_zero, flP_take hj]
  simp
/-- A list of proofs of the call's own; P: all its blocks. -/
def OwnQ (w : World) (base : Nat) (A : Option Addr) (n c : Nat) (P : List Nat) (ps : List (List Int × List Int × List Int)) : Prop := OwnG 3 44 w base A n c P (flP ps)
section
variable {w w' : World} {base n c : Nat} {A : Option Addr} {P fp : List Nat} {ps : List (List Int × List Int × List Int)}
theorem OwnQ.len (h : OwnQ w base A n c P ps) : ps.length = n := by
  have := OwnG.len h
  rw [flP_length] at this; omega
theorem OwnQ.cap (h : OwnQ w base A n c P ps) : n ≤ c ∧ c ≤ maxLen := OwnG.cap h
theorem OwnQ.le (h : OwnQ w base A n c P ps) : n ≤ maxLen := OwnG.le h
theorem OwnQ.rd (h : OwnQ w base A n c P ps) : RdP w A ps := OwnG.rd h
theorem OwnQ.low (h : OwnQ w base A n c P ps) : Low P w.heap.size := OwnG.low h
theorem OwnQ.high (h : OwnQ w base A n c P ps) : High base P := OwnG.high h
theorem OwnQ.only (h : OwnQ w base A n c P ps) (k : Only fp w w') (ha : Apart P fp) : OwnQ w' base A n c P ps := OwnG.only h k ha
theorem OwnQ.ext (h : OwnQ w base A n c P ps) (hb : Ext w w') : OwnQ w' base A n c P ps := OwnG.ext h hb
theorem OwnQ.more {base' : Nat} (h : OwnQ w base A n c P ps) (hb : base' ≤ base) : OwnQ w base' A n c P ps := OwnG.more h hb
end
/-- t is the type of slices of triples of slices. -/
structure ProofSl (P : Program) (t e : TypeId) : Prop where
  ht : P.underlying t = some (.slice e)
  hi : ∃ i, P.info? e = some i ∧ i.zero = some (.agg #[.slice none 0 0, .slice none 0 0, .slice none 0 0]) ∧ i.size = 3 ∧ i.bytes = 72
theorem rep3 (n : Nat) (z : Value) : (madeCells #[z, z, z] (n * 3)).toList = List.replicate (n * 3) z := by
  apply List.ext_getElem?
  intro j
  by_cases hj : j < n * 3
  · rw [List.getElem?_replicate, if_pos hj]
    have : j % 3 = 0 ∨ j % 3 = 1 ∨ j % 3 = 2 := by omega
    rcases this with h | h | h <;> simp [madeCells, hj, h]
  · rw [List.getElem?_eq_none (by simp [madeCells]; omega), List.getElem?_eq_none (by simp; omega)]
/-- 'make([]T, n)'. -/
theorem wpList_mkP {P : Program} {w : World} {ops : Array Oper} {rest : List Oper} {o : Oper} {a : Act} {Q : Exit → Act → World → Prop} {t e : TypeId} (S : ProofSl P t e)
    (hg : o.guard = none) (l c : Operand) (hop : o.op = Op.makeSlice t l c) (kl kc : IntKind) (L C : Int) (n : Nat) (hl : a.eval l = .int kl L) (hc : a.eval c = .int kc C) (hL : L = (n : Int)) (hC : C = (n : Int)) (hn : n ≤ 1000000000)
    (base : Nat) (hb : base ≤ w.heap.size)
    (hK : ∀ w', OwnW 3 w' base e (some ⟨w.heap.size, 0, none⟩) n n (List.replicate (n * 3) (.slice none 0 0)) → Ext w w' → w.heap.size < w'.heap.size → wpList P ops Q rest (a.put o.dst (.slice (some ⟨w.heap.size, 0, none⟩) n n)) w') :
    wpList P ops Q (o :: rest) a w := by
  obtain ⟨i, h2, h3, h4, h5⟩ := S.hi
  refine wpList_make_full (P := P) w hg l c t hop base e i (.agg #[.slice none 0 0, .slice none 0 0, .slice none 0 0]) 3 S.ht h2 h3 h4 kl kc L C n hl hc hL hC (by rw [h5]; omega) (by unfold maxLen; omega) hb fun w' hw hgr => ?_
  have h6 : OwnW 3 w' base e (some ⟨w.heap.size, 0, none⟩) n n (List.replicate (n * 3) (.slice none 0 0)) := by
    unfold OwnW
    rw [← rep3]
    exact hw
  exact hK w' h6 ((Ext.refl w).grown hgr (by simp)) (h6.lt _ rfl).2
theorem proofSl : ProofSl Try.prog 43 44 := by
  refine ⟨Try.underlying43, ?_⟩
  have h : (Try.prog.info? 44).map (fun i => (i.zero, i.size, i.bytes)) = some (some (.agg #[.slice none 0 0, .slice none 0 0, .slice none 0 0]), 3, 72) := by kernel_rfl
  exact info_parts h
end Go.Proofs.Ytpfccboighdcbaa
