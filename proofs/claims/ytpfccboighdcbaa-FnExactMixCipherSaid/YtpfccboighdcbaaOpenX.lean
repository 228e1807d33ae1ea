/- Arguments opened: sealed ballots, matrix proofs. -/
import Derived.Test.YtpfccboighdcbaaOpenD
import Derived.Test.YtpfccboighdcbaaPf
namespace Go.Proofs.Ytpfccboighdcbaa
open Go.ChangeShapes Go.WideShapes Go.ChangeAt Go.RowKit Go.Joins Go.Deep

/-- The fields' types and offsets. -/
def fieldsAre (fs : Array Field) (l : List (TypeId × Nat)) : Bool := (fs.toList.map fun f => (f.type, f.offset)) == l
theorem fieldsAre_at {fs : Array Field} {l : List (TypeId × Nat)} (h : fieldsAre fs l = true) {i : Nat} {t : TypeId} {o : Nat} (hl : l[i]? = some (t, o)) : ∃ f, fs[i]? = some f ∧ f.type = t ∧ f.offset = o := by
  unfold fieldsAre at h
  have h1 := eq_of_beq h
  rw [← h1] at hl
  simp only [List.getElem?_map, Option.map_eq_some_iff, Prod.mk.injEq] at hl
  obtain ⟨f, hf, e1, e2⟩ := hl
  exact ⟨f, by simpa using hf, e1, e2⟩
section
variable {H : Type} {enc : TypeId × Value → H} {P : Program} {w : World} {base : Nat} {spare : Nat → Bool} {held : Bool}
/-- One field of a struct, read. -/
theorem field_of_trod {t : TypeId} {fs : Array Field} (hs : P.underlying t = some (.struct fs)) {l : List (TypeId × Nat)} (hF : fieldsAre fs l = true) {fuel : Nat} {cs : List Value} {x : DataW H × List MemPlace}
    (hf : DataW.trod enc P w base spare held fuel t cs = some x) : ∃ n, ∀ (i : Nat) (u : TypeId) (o k : Nat), l[i]? = some (u, o) → P.cellsOf u = k → ∃ y, DataW.trod enc P w base spare held n u ((cs.drop o).take k) = some y := by
  obtain ⟨xs, n, _, _, hlen, hxl, hg⟩ := DataW.trod_struct hs hf
  refine ⟨n, fun i u o k hl hk => ?_⟩
  obtain ⟨f, hfi, e1, e2⟩ := fieldsAre_at hF hl
  have h1 := hg i f hfi
  rw [e1, e2, hk] at h1
  have hi : i < xs.length := by rw [hxl]; exact (Array.getElem?_eq_some_iff.1 hfi).1
  rw [List.getElem?_eq_getElem hi] at h1
  exact ⟨_, h1⟩
theorem three_of_trod {t : TypeId} {fs : Array Field} (hs : P.underlying t = some (.struct fs)) (hall : allSls P fs = true) (h3 : fs.size = 3) {fuel : Nat} {u v z : Value} {x : DataW H × List MemPlace}
    (hf : DataW.trod enc P w base spare held fuel t [u, v, z] = some x) : ∃ A l c B k d C m e, u = .slice A l.length c ∧ v = .slice B k.length d ∧ z = .slice C m.length e ∧ SlI w A l.length c l ∧ SlI w B k.length d k ∧ SlI w C m.length e m := by
  have key := sls_of_trod hs hall (by simp [h3]) hf
  obtain ⟨A, l, c, ⟨h1, h2, _, _⟩⟩ := key 0 (by simp)
  obtain ⟨B, k, d, ⟨g1, g2, _, _⟩⟩ := key 1 (by simp)
  obtain ⟨C, m, e, ⟨f1, f2, _, _⟩⟩ := key 2 (by simp)
  exact ⟨A, l, c, B, k, d, C, m, e, h1, g1, f1, h2, g2, f2⟩
/-- A slice of pairs of ints. -/
theorem ciS_of_trod {t e : TypeId} {fs : Array Field} (ht : P.underlying t = some (.slice e)) (hs : P.underlying e = some (.struct fs)) (hall : allInts P fs = true) (hC : P.cellsOf e = fs.size) (h2 : fs.size = 2) {fuel : Nat} {v : Value} {x : DataW H × List MemPlace}
    (hf : DataW.trod enc P w base spare held fuel t [v] = some x) : ∃ (A : Option Addr) (l : List (Int × Int)) (c : Nat), v = .slice A l.length c ∧ RdC w A l ∧ l.length ≤ c ∧ c ≤ maxLen := by
  obtain ⟨x1, x2⟩ := x
  rcases open_slice ht hf with ⟨hcs, _⟩ | ⟨a, len, cap, m, n, D, Pl, hcs, _, hl, hm, hmm, _, hel⟩
  · simp only [List.cons.injEq, and_true] at hcs
    subst hcs
    exact ⟨none, [], 0, rfl, .inl rfl, Nat.le_refl _, Nat.zero_le _⟩
  · simp only [List.cons.injEq, and_true] at hcs
    subst hcs
    rw [hC, h2] at hel
    have key : ∀ i, i < len → ∃ q : Int × Int, w.cell? (a.add (i * 2)) = some (.int .i64 q.1) ∧ w.cell? (a.add (i * 2 + 1)) = some (.int .i64 q.2) := by
      intro i hi
      obtain ⟨cs', hc, htr⟩ := hel i (by rw [hmm]; split <;> omega)
      obtain ⟨_, hcl, hat⟩ := World.cells?_some hc
      obtain ⟨l, rfl, hll, hn⟩ := trod_allInts hs hall (by rw [hcl, h2]) htr
      match l, hll.trans h2 with
      | [x, y], _ =>
        refine ⟨(x, y), ?_, ?_⟩
        · have := hat 0 (by omega); rw [add_add] at this; exact this
        · have := hat 1 (by omega); rw [add_add] at this; exact this
    let g : Nat → Int × Int := fun i => if h : i < len then Classical.choose (key i h) else (0, 0)
    have hg : ∀ i, i < len → w.cell? (a.add (i * 2)) = some (.int .i64 (g i).1) ∧ w.cell? (a.add (i * 2 + 1)) = some (.int .i64 (g i).2) := by
      intro i hi
      have := Classical.choose_spec (key i hi)
      simp only [g, hi, dif_pos]
      exact this
    refine ⟨some a, (List.range len).map g, cap, by simp, .inr ⟨a, rfl, ?_⟩, by simpa using hl, hm⟩
    intro j u hu
    have hj := (List.getElem?_eq_some_iff.1 hu).1
    rw [cs2_length, List.length_map, List.length_range] at hj
    obtain ⟨k, hk⟩ : ∃ k, j = k * 2 ∨ j = k * 2 + 1 := ⟨j / 2, by omega⟩
    rcases hk with rfl | rfl
    · rw [(cs2_get (k := k) (by simp; omega)).1] at hu
      simp only [List.getElem_map, List.getElem_range, Option.some.injEq] at hu
      subst hu; exact (hg k (by omega)).1
    · rw [(cs2_get (k := k) (by simp; omega)).2] at hu
      simp only [List.getElem_map, List.getElem_range, Option.some.injEq] at hu
      subst hu; exact (hg k (by omega)).2
/-- A slice of structs of three slices of ints. -/
theorem psS_of_trod {t e : TypeId} {fs : Array Field} (ht : P.underlying t = some (.slice e)) (hs : P.underlying e = some (.struct fs)) (hall : allSls P fs = true) (hC : P.cellsOf e = fs.size) (h3 : fs.size = 3) {fuel : Nat} {v : Value} {x : DataW H × List MemPlace}
    (hf : DataW.trod enc P w base spare held fuel t [v] = some x) : ∃ (A : Option Addr) (ps : List (List Int × List Int × List Int)) (c : Nat), v = .slice A ps.length c ∧ RdP w A ps ∧ ps.length ≤ c ∧ c ≤ maxLen := by
  obtain ⟨x1, x2⟩ := x
  rcases open_slice ht hf with ⟨hcs, _⟩ | ⟨a, len, cap, m, n, D, Pl, hcs, _, hl, hm, hmm, _, hel⟩
  · simp only [List.cons.injEq, and_true] at hcs
    subst hcs
    exact ⟨none, [], 0, rfl, .inl rfl, Nat.le_refl _, Nat.zero_le _⟩
  · simp only [List.cons.injEq, and_true] at hcs
    subst hcs
    rw [hC, h3] at hel
    have key : ∀ i, i < len → ∃ q : List Int × List Int × List Int, ∃ B n c E k d F m f, w.cell? (a.add (i * 3)) = some (.slice B n c) ∧ w.cell? (a.add (i * 3 + 1)) = some (.slice E k d) ∧ w.cell? (a.add (i * 3 + 2)) = some (.slice F m f) ∧ SlI w B n c q.1 ∧ SlI w E k d q.2.1 ∧ SlI w F m f q.2.2 := by
      intro i hi
      obtain ⟨cs', hc, htr⟩ := hel i (by rw [hmm]; split <;> omega)
      obtain ⟨_, hcl, hat⟩ := World.cells?_some hc
      match cs', hcl with
      | [u, v, z], _ =>
        obtain ⟨B, l, c, E, k, d, F, m, f, rfl, rfl, rfl, g1, g2, g3⟩ := three_of_trod hs hall h3 htr
        refine ⟨(l, k, m), B, l.length, c, E, k.length, d, F, m.length, f, ?_, ?_, ?_, g1, g2, g3⟩
        · have := hat 0 (by omega); rw [add_add] at this; exact this
        · have := hat 1 (by omega); rw [add_add] at this; exact this
        · have := hat 2 (by omega); rw [add_add] at this; exact this
    let g : Nat → List Int × List Int × List Int := fun i => if h : i < len then Classical.choose (key i h) else ([], [], [])
    have hg : ∀ i, i < len → ∃ B n c E k d F m f, w.cell? (a.add (i * 3)) = some (.slice B n c) ∧ w.cell? (a.add (i * 3 + 1)) = some (.slice E k d) ∧ w.cell? (a.add (i * 3 + 2)) = some (.slice F m f) ∧ SlI w B n c (g i).1 ∧ SlI w E k d (g i).2.1 ∧ SlI w F m f (g i).2.2 := by
      intro i hi
      have := Classical.choose_spec (key i hi)
      simp only [g, hi, dif_pos]
      exact this
    refine ⟨some a, (List.range len).map g, cap, by simp, .inr ⟨a, rfl, ?_⟩, by simpa using hl, hm⟩
    intro j hj
    rw [flP_length, List.length_map, List.length_range] at hj
    obtain ⟨k, hk⟩ : ∃ k, j = k * 3 ∨ j = k * 3 + 1 ∨ j = k * 3 + 2 := ⟨j / 3, by omega⟩
    obtain ⟨B, n1, c1, E, k1, d1, F, m1, f1, q1, q2, q3, q4, q5, q6⟩ := hg k (by omega)
    have hf2 := flP_get (l := (List.range len).map g) (k := k) (by simp; omega)
    simp only [List.getElem_map, List.getElem_range] at hf2
    rcases hk with rfl | rfl | rfl
    · exact ⟨B, n1, c1, q1, by rw [hf2.1]; exact q4.rd, by rw [hf2.1]; exact q4.len, q4.cap, q4.max⟩
    · exact ⟨E, k1, d1, q2, by rw [hf2.2.1]; exact q5.rd, by rw [hf2.2.1]; exact q5.len, q5.cap, q5.max⟩
    · exact ⟨F, m1, f1, q3, by rw [hf2.2.2]; exact q6.rd, by rw [hf2.2.2]; exact q6.len, q6.cap, q6.max⟩
/-- A sealed ballot. -/
theorem openXS {r : Reach} {b0 : Nat} {t ti tc tp tq ec ep : TypeId} {fs fc fp fq : Array Field} {v : Value} {d : DataW H} {p : List MemPlace} (hs : P.underlying t = some (.struct fs)) (hF : fieldsAre fs [(ti, 0), (tc, 1), (tp, 2), (tq, 3)] = true) (hT : P.cellsOf t = 6)
    (hi : P.underlying ti = some (.int .i64)) (hc : P.underlying tc = some (.slice ec)) (hec : P.underlying ec = some (.struct fc)) (hcA : allInts P fc = true) (hcC : P.cellsOf ec = fc.size) (hc2 : fc.size = 2)
    (hp : P.underlying tp = some (.slice ep)) (hep : P.underlying ep = some (.struct fp)) (hpA : allSls P fp = true) (hpC : P.cellsOf ep = fp.size) (hp3 : fp.size = 3)
    (hq : P.underlying tq = some (.struct fq)) (hqA : allSls P fq = true) (hq3 : fq.size = 3) (k0 : P.cellsOf ti = 1) (k1 : P.cellsOf tc = 1) (k2 : P.cellsOf tp = 1) (k3 : P.cellsOf tq = 3)
    (hv : Value.okWide P w r b0 t v) (h : DataW.Trod enc P w base spare held t v d p) :
    ∃ (n : Int) (A : Option Addr) (ci : List (Int × Int)) (c : Nat) (B : Option Addr) (ps : List (List Int × List Int × List Int)) (d : Nat) (C1 : Option Addr) (l1 : List Int) (f1 : Nat) (C2 : Option Addr) (l2 : List Int) (f2 : Nat) (C3 : Option Addr) (l3 : List Int) (f3 : Nat),
      v = .agg #[.int .i64 n, .slice A ci.length c, .slice B ps.length d, .slice C1 l1.length f1, .slice C2 l2.length f2, .slice C3 l3.length f3] ∧ (RdC w A ci ∧ ci.length ≤ c ∧ c ≤ maxLen) ∧ (RdP w B ps ∧ ps.length ≤ d ∧ d ≤ maxLen) ∧ SlI w C1 l1.length f1 l1 ∧ SlI w C2 l2.length f2 l2 ∧ SlI w C3 l3.length f3 l3 := by
  obtain ⟨cs, rfl, hsz⟩ := okWide_struct hs hv
  obtain ⟨fuel, hf⟩ := h
  rw [show (Value.agg cs).cells = cs from rfl] at hf
  have hcs6 : cs.toList.length = 6 := by rw [Array.length_toList, hsz, hT]
  obtain ⟨a0, a1, a2, a3, a4, a5, hl⟩ : ∃ a0 a1 a2 a3 a4 a5, cs.toList = [a0, a1, a2, a3, a4, a5] := by
    match hh : cs.toList, hcs6 with
    | [a0, a1, a2, a3, a4, a5], _ => exact ⟨a0, a1, a2, a3, a4, a5, rfl⟩
  have he : cs = #[a0, a1, a2, a3, a4, a5] := by rw [← Array.toList_inj, hl]
  subst he
  obtain ⟨n, key⟩ := field_of_trod hs hF hf
  obtain ⟨y0, g0⟩ := key 0 ti 0 1 rfl k0
  obtain ⟨y1, g1⟩ := key 1 tc 1 1 rfl k1
  obtain ⟨y2, g2⟩ := key 2 tp 2 1 rfl k2
  obtain ⟨y3, g3⟩ := key 3 tq 3 3 rfl k3
  simp only [List.drop_zero, List.drop_succ_cons, List.take_succ_cons, List.take_zero] at g0 g1 g2 g3
  obtain ⟨m, hm, _, _⟩ := DataW.trod_int hi g0
  simp only [List.cons.injEq, and_true] at hm
  obtain ⟨A, ci, c, e1, h1, h2, h3⟩ := ciS_of_trod hc hec hcA hcC hc2 g1
  obtain ⟨B, ps, d, e2, h4, h5, h6⟩ := psS_of_trod hp hep hpA hpC hp3 g2
  obtain ⟨C1, l1, f1, C2, l2, f2, C3, l3, f3, e3, e4, e5, h7, h8, h9⟩ := three_of_trod hq hqA hq3 g3
  subst hm e1 e2 e3 e4 e5
  exact ⟨m, A, ci, c, B, ps, d, C1, l1, f1, C2, l2, f2, C3, l3, f3, rfl, ⟨h1, h2, h3⟩, ⟨h4, h5, h6⟩, h7, h8, h9⟩
/-- A matrix proof. -/
theorem openMP {r : Reach} {b0 : Nat} {t ta tb tq : TypeId} {fs fq : Array Field} {v : Value} {d : DataW H} {p : List MemPlace} (hs : P.underlying t = some (.struct fs)) (hF : fieldsAre fs [(ta, 0), (tb, 1), (tq, 2)] = true) (hT : P.cellsOf t = 5)
    (ha : isIntSl P ta = true) (hb : isIntSl P tb = true) (hq : P.underlying tq = some (.struct fq)) (hqA : allSls P fq = true) (hq3 : fq.size = 3) (k0 : P.cellsOf ta = 1) (k1 : P.cellsOf tb = 1) (k3 : P.cellsOf tq = 3)
    (hv : Value.okWide P w r b0 t v) (h : DataW.Trod enc P w base spare held t v d p) :
    ∃ (C1 : Option Addr) (l1 : List Int) (f1 : Nat) (C2 : Option Addr) (l2 : List Int) (f2 : Nat) (C3 : Option Addr) (l3 : List Int) (f3 : Nat) (C4 : Option Addr) (l4 : List Int) (f4 : Nat) (C5 : Option Addr) (l5 : List Int) (f5 : Nat),
      v = .agg #[.slice C1 l1.length f1, .slice C2 l2.length f2, .slice C3 l3.length f3, .slice C4 l4.length f4, .slice C5 l5.length f5] ∧ SlI w C1 l1.length f1 l1 ∧ SlI w C2 l2.length f2 l2 ∧ SlI w C3 l3.length f3 l3 ∧ SlI w C4 l4.length f4 l4 ∧ SlI w C5 l5.length f5 l5 := by
  obtain ⟨cs, rfl, hsz⟩ := okWide_struct hs hv
  obtain ⟨fuel, hf⟩ := h
  rw [show (Value.agg cs).cells = cs from rfl] at hf
  have hcs5 : cs.toList.length = 5 := by rw [Array.length_toList, hsz, hT]
  obtain ⟨a0, a1, a2, a3, a4, hl⟩ : ∃ a0 a1 a2 a3 a4, cs.toList = [a0, a1, a2, a3, a4] := by
    match hh : cs.toList, hcs5 with
    | [a0, a1, a2, a3, a4], _ => exact ⟨a0, a1, a2, a3, a4, rfl⟩
  have he : cs = #[a0, a1, a2, a3, a4] := by rw [← Array.toList_inj, hl]
  subst he
  obtain ⟨n, key⟩ := field_of_trod hs hF hf
  obtain ⟨y0, g0⟩ := key 0 ta 0 1 rfl k0
  obtain ⟨y1, g1⟩ := key 1 tb 1 1 rfl k1
  obtain ⟨y3, g3⟩ := key 2 tq 2 3 rfl k3
  simp only [List.drop_zero, List.drop_succ_cons, List.take_succ_cons, List.take_zero] at g0 g1 g3
  obtain ⟨C1, l1, f1, ⟨e1, h1, _, _⟩⟩ := sl_of_trod ha g0
  obtain ⟨C2, l2, f2, ⟨e2, h2, _, _⟩⟩ := sl_of_trod hb g1
  obtain ⟨C3, l3, f3, C4, l4, f4, C5, l5, f5, e3, e4, e5, h7, h8, h9⟩ := three_of_trod hq hqA hq3 g3
  subst e1 e2 e3 e4 e5
  exact ⟨C1, l1, f1, C2, l2, f2, C3, l3, f3, C4, l4, f4, C5, l5, f5, rfl, h1, h2, h7, h8, h9⟩
end
end Go.Proofs.Ytpfccboighdcbaa
