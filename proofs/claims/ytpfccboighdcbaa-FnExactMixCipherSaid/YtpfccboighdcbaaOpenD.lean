/- Arguments opened: slices of pairs of ints, slices of slices of ints. Arguments opened: pairs of slices of ints, slices of them. -/
import Derived.Test.YtpfccboighdcbaaOpen
import Derived.Test.YtpfccboighdcbaaCiph
import Derived.Test.YtpfccboighdcbaaGood
import Derived.Deep.Matrix
import Derived.Test.YtpfccboighdcbaaDl
namespace Go.Proofs.Ytpfccboighdcbaa
section
open Go.ChangeShapes Go.WideShapes Go.ChangeAt Go.RowKit Go.Joins Go.Deep

section
variable {H : Type} {enc : TypeId × Value → H} {P : Program} {w : World} {base : Nat} {spare : Nat → Bool} {held : Bool}

theorem trod_allInts {t : TypeId} {fs : Array Field} (hs : P.underlying t = some (.struct fs)) (hall : allInts P fs = true) {fuel : Nat} {cs : List Value} {x : DataW H × List MemPlace} (hcs : cs.length = fs.size)
    (hf : DataW.trod enc P w base spare held fuel t cs = some x) : ∃ l : List Int, cs = ints l ∧ l.length = fs.size ∧ ∀ n ∈ l, Fits n := by
  simp only [allInts, Bool.and_eq_true] at hall
  obtain ⟨hone, hints⟩ := hall
  obtain ⟨xs, n, _, _, hlen, hxl, hg⟩ := DataW.trod_struct hs hf
  have key : ∀ i, (hi : i < cs.length) → ∃ m : Int, cs[i] = .int .i64 m ∧ Fits m := by
    intro i hi
    have hi' : i < fs.size := by omega
    have hfi : fs[i]? = some fs[i] := Array.getElem?_eq_getElem hi'
    obtain ⟨o, c⟩ := hone_of hone i _ hfi
    have h1 := hg i _ hfi
    rw [o, c] at h1
    have h2 := List.all_eq_true.1 hints i (List.mem_range.2 hi')
    simp only [hfi] at h2
    have ht : P.underlying fs[i].type = some (.int .i64) := by
      split at h2
      · assumption
      · cases h2
    have h3 : (cs.drop i).take 1 = [cs[i]] := by
      rw [List.drop_eq_getElem_cons hi]; rfl
    rw [h3] at h1
    have h4 : xs[i]? = some (xs[i]'(by omega)) := List.getElem?_eq_getElem (by omega)
    rw [h4] at h1
    obtain ⟨m, hm, _, hw⟩ := DataW.trod_int ht h1
    simp only [List.cons.injEq, and_true] at hm
    exact ⟨m, hm, fits_of_wf hw⟩
  refine ⟨cs.map intOf, ?_, by simpa using hcs, ?_⟩
  · rw [ints, List.map_map]
    apply List.ext_getElem (by simp)
    intro i h1 h2
    obtain ⟨m, hm, _⟩ := key i h1
    simp [hm, intOf]
  · intro n hn
    obtain ⟨v, hv, rfl⟩ := List.mem_map.1 hn
    obtain ⟨i, hi, rfl⟩ := List.getElem_of_mem hv
    obtain ⟨m, hm, hw⟩ := key i hi
    simpa [hm, intOf] using hw

theorem openGS2 {r : Reach} {b0 : Nat} {t e : TypeId} {fs : Array Field} {v : Value} {d : DataW H} {p : List MemPlace} (ht : P.underlying t = some (.slice e)) (hs : P.underlying e = some (.struct fs)) (hall : allInts P fs = true) (hC : P.cellsOf e = fs.size) (h2 : fs.size = 2)
    (hv : Value.okWide P w r b0 t v) (h : DataW.Trod enc P w base spare held t v d p) :
    ∃ (A : Option Addr) (l : List (Int × Int)) (c : Nat), v = .slice A l.length c ∧ RdC w A l ∧ l.length ≤ c ∧ c ≤ maxLen ∧ (A = none → c = 0) ∧ ∀ n ∈ l, Fits n.1 ∧ Fits n.2 := by
  obtain ⟨a0, len, cap, rfl⟩ := okWide_slice ht hv
  obtain ⟨fuel, hf⟩ := h
  rcases open_slice ht hf with ⟨hcs, _⟩ | ⟨a, len', cap', m, n, D, Pl, hcs, _, hl, hm, hmm, _, hel⟩
  · simp only [Value.cells, List.cons.injEq, Value.slice.injEq, and_true] at hcs
    obtain ⟨rfl, rfl, rfl⟩ := hcs
    exact ⟨none, [], 0, rfl, .inl rfl, Nat.le_refl _, Nat.zero_le _, fun _ => rfl, by simp⟩
  · simp only [Value.cells, List.cons.injEq, Value.slice.injEq, and_true] at hcs
    obtain ⟨rfl, rfl, rfl⟩ := hcs
    rw [hC, h2] at hel
    have key : ∀ i, i < len → ∃ x y : Int, w.cell? (a.add (i * 2)) = some (.int .i64 x) ∧ w.cell? (a.add (i * 2 + 1)) = some (.int .i64 y) ∧ Fits x ∧ Fits y := by
      intro i hi
      obtain ⟨cs', hc, htr⟩ := hel i (by rw [hmm]; split <;> omega)
      obtain ⟨_, hcl, hat⟩ := World.cells?_some hc
      obtain ⟨l, rfl, hll, hn⟩ := trod_allInts hs hall (by rw [hcl, h2]) htr
      match l, hll.trans h2 with
      | [x, y], _ =>
        refine ⟨x, y, ?_, ?_, hn x (by simp), hn y (by simp)⟩
        · have := hat 0 (by omega); rw [add_add] at this; exact this
        · have := hat 1 (by omega); rw [add_add] at this; exact this
    let g : Nat → Int × Int := fun i => if h : i < len then (Classical.choose (key i h), Classical.choose (Classical.choose_spec (key i h))) else (0, 0)
    have hg : ∀ i, i < len → w.cell? (a.add (i * 2)) = some (.int .i64 (g i).1) ∧ w.cell? (a.add (i * 2 + 1)) = some (.int .i64 (g i).2) ∧ Fits (g i).1 ∧ Fits (g i).2 := by
      intro i hi
      have := Classical.choose_spec (Classical.choose_spec (key i hi))
      simp only [g, hi, dif_pos]
      exact this
    refine ⟨some a, (List.range len).map g, cap, by simp, .inr ⟨a, rfl, ?_⟩, by simpa using hl, hm, by simp, ?_⟩
    · intro j u hu
      have hj := (List.getElem?_eq_some_iff.1 hu).1
      rw [cs2_length, List.length_map, List.length_range] at hj
      obtain ⟨k, hk⟩ : ∃ k, j = k * 2 ∨ j = k * 2 + 1 := ⟨j / 2, by omega⟩
      rcases hk with rfl | rfl
      · rw [(cs2_get (k := k) (by simp; omega)).1] at hu
        simp only [List.getElem_map, List.getElem_range, Option.some.injEq] at hu
        subst hu; exact (hg k (by omega)).1
      · rw [(cs2_get (k := k) (by simp; omega)).2] at hu
        simp only [List.getElem_map, List.getElem_range, Option.some.injEq] at hu
        subst hu; exact (hg k (by omega)).2.1
    · intro q hq
      simp only [List.mem_map, List.mem_range] at hq
      obtain ⟨i, hi, rfl⟩ := hq
      exact (hg i hi).2.2

theorem openISS {r : Reach} {b0 : Nat} {t e q : TypeId} {v : Value} {d : DataW H} {p : List MemPlace} (ht : P.underlying t = some (.slice e)) (he : P.underlying e = some (.slice q)) (hq : P.underlying q = some (.int .i64)) (ce : P.cellsOf e = 1) (cq : P.cellsOf q = 1)
    (hv : Value.okWide P w r b0 t v) (h : DataW.Trod enc P w base (fun _ => true) held t v d p) :
    ∃ (A : Option Addr) (l : List (List Int)) (c : Nat), v = .slice A l.length c ∧ RdSS w A l ∧ l.length ≤ c ∧ c ≤ maxLen ∧ (A = none → c = 0) ∧ ∀ n ∈ l, ∀ k ∈ n, Fits k := by
  obtain ⟨a0, len, cap, rfl⟩ := okWide_slice ht hv
  obtain ⟨fuel, hf⟩ := h
  rcases open_int_rows ht he hq ce cq hf with ⟨hcs, _⟩ | ⟨a, len', cap', A, L, C, Z, hcs, _, hl, hm, _, hr⟩
  · simp only [Value.cells, List.cons.injEq, Value.slice.injEq, and_true] at hcs
    obtain ⟨rfl, rfl, rfl⟩ := hcs
    exact ⟨none, [], 0, rfl, .inl rfl, Nat.le_refl _, Nat.zero_le _, fun _ => rfl, by simp⟩
  · simp only [Value.cells, List.cons.injEq, Value.slice.injEq, and_true] at hcs
    obtain ⟨rfl, rfl, rfl⟩ := hcs
    refine ⟨some a, (List.range len).map fun i => (Z i).take (L i), cap, by simp, .inr ⟨a, rfl, fun k hk => ?_⟩, by simpa using hl, hm, by simp, ?_⟩
    · have hk' : k < len := by simpa using hk
      obtain ⟨h1, h2, h3, h4, h5, h6, h7⟩ := hr k (by omega)
      refine ⟨A k, L k, C k, h1, ?_, ?_, h2, h3⟩
      · rw [List.getElem_map, List.getElem_range]
        cases hA : A k with
        | none =>
          left
          have := h6 hA
          simp [ints, show L k = 0 by omega]
        | some a' =>
          refine .inr ⟨a', rfl, fun j u hu => ?_⟩
          simp only [ints, List.getElem?_map, Option.map_eq_some_iff] at hu
          obtain ⟨x, hx, rfl⟩ := hu
          have hj : j < L k := by
            have := (List.getElem?_eq_some_iff.1 hx).1
            rw [List.length_take] at this; omega
          rw [(h7 a' hA).2 j (by omega)]
          rw [List.getElem?_take_of_lt hj] at hx
          simp [List.getD, hx]
      · rw [List.getElem_map, List.getElem_range, List.length_take]; omega
    · intro n hn k hk
      simp only [List.mem_map, List.mem_range] at hn
      obtain ⟨i, hi, rfl⟩ := hn
      obtain ⟨_, _, _, _, h5, _⟩ := hr i (by omega)
      exact fits_of_wf (h5 k (List.mem_of_mem_take hk))
end
end
section
open Go.ChangeShapes Go.WideShapes Go.ChangeAt Go.RowKit Go.Joins Go.Deep

/-- What is known of a slice that came in. -/
structure InI (w : World) (v : Value) (A : Option Addr) (l : List Int) (c : Nat) : Prop where
  eq : v = .slice A l.length c
  sl : SlI w A l.length c l
  nil : A = none → c = 0
  fits : ∀ n ∈ l, Fits n
def isIntSl (P : Program) (t : TypeId) : Bool := match P.underlying t with
  | some (.slice e) => (match P.underlying e with | some (.int .i64) => P.cellsOf e == 1 | _ => false)
  | _ => false
/-- All fields are slices of ints. -/
def allSls (P : Program) (fs : Array Field) : Bool := oneCellFields P fs && (List.range fs.size).all fun i => match fs[i]? with
  | some f => isIntSl P f.type
  | none => false
section
variable {H : Type} {enc : TypeId × Value → H} {P : Program} {w : World} {base : Nat} {spare : Nat → Bool} {held : Bool}
theorem sl_of_trod {t : TypeId} {fuel : Nat} {v : Value} {x : DataW H × List MemPlace} (ht : isIntSl P t = true) (hf : DataW.trod enc P w base spare held fuel t [v] = some x) : ∃ A l c, InI w v A l c := by
  unfold isIntSl at ht
  split at ht
  case h_2 => cases ht
  case h_1 e h1 =>
    split at ht
    case h_2 => cases ht
    case h_1 h2 =>
      rcases open_ints h1 h2 (by simpa using ht) hf with ⟨hcs, _⟩ | ⟨a, len, cap, zs, hcs, _, hl, hm, hz, _, hcell, hwz⟩
      · simp only [List.cons.injEq, and_true] at hcs
        subst hcs
        exact ⟨none, [], 0, rfl, ⟨.inl rfl, rfl, Nat.le_refl _, Nat.zero_le _⟩, fun _ => rfl, by simp⟩
      · simp only [List.cons.injEq, and_true] at hcs
        subst hcs
        have hzl : len ≤ zs.length := by rw [hz]; split <;> omega
        refine ⟨some a, zs.take len, cap, ?_, ⟨.inr ⟨a, rfl, fun j u hu => ?_⟩, rfl, ?_, hm⟩, by simp, fun n hn => fits_of_wf (hwz n (List.mem_of_mem_take hn))⟩
        · rw [List.length_take, Nat.min_eq_left hzl]
        · simp only [ints, List.getElem?_map, Option.map_eq_some_iff] at hu
          obtain ⟨y, hy, rfl⟩ := hu
          have hj : j < len := by
            have := (List.getElem?_eq_some_iff.1 hy).1
            rw [List.length_take] at this; omega
          rw [hcell j (by omega)]
          rw [List.getElem?_take_of_lt hj] at hy
          simp [List.getD, hy]
        · rw [List.length_take]; omega
theorem sls_of_trod {t : TypeId} {fs : Array Field} (hs : P.underlying t = some (.struct fs)) (hall : allSls P fs = true) {fuel : Nat} {cs : List Value} {x : DataW H × List MemPlace} (hcs : cs.length = fs.size)
    (hf : DataW.trod enc P w base spare held fuel t cs = some x) : ∀ i, (hi : i < cs.length) → ∃ A l c, InI w cs[i] A l c := by
  simp only [allSls, Bool.and_eq_true] at hall
  obtain ⟨hone, hsl⟩ := hall
  obtain ⟨xs, n, _, _, hlen, hxl, hg⟩ := DataW.trod_struct hs hf
  intro i hi
  have hi' : i < fs.size := by omega
  have hfi : fs[i]? = some fs[i] := Array.getElem?_eq_getElem hi'
  obtain ⟨o, c⟩ := hone_of hone i _ hfi
  have h1 := hg i _ hfi
  rw [o, c] at h1
  have h2 := List.all_eq_true.1 hsl i (List.mem_range.2 hi')
  simp only [hfi] at h2
  have h3 : (cs.drop i).take 1 = [cs[i]] := by
    rw [List.drop_eq_getElem_cons hi]; rfl
  rw [h3] at h1
  have h4 : xs[i]? = some (xs[i]'(by omega)) := List.getElem?_eq_getElem (by omega)
  rw [h4] at h1
  exact sl_of_trod h2 h1

/-- A struct of two slices of ints. -/
theorem openKS {r : Reach} {b0 : Nat} {t : TypeId} {fs : Array Field} {v : Value} {d : DataW H} {p : List MemPlace} (hs : P.underlying t = some (.struct fs)) (hall : allSls P fs = true) (hC : P.cellsOf t = fs.size) (h2 : fs.size = 2)
    (hv : Value.okWide P w r b0 t v) (h : DataW.Trod enc P w base spare held t v d p) :
    ∃ (A : Option Addr) (l : List Int) (c : Nat) (B : Option Addr) (k : List Int) (d : Nat), v = .agg #[.slice A l.length c, .slice B k.length d] ∧ SlI w A l.length c l ∧ SlI w B k.length d k := by
  obtain ⟨cs, rfl, hsz⟩ := okWide_struct hs hv
  obtain ⟨fuel, hf⟩ := h
  have hcs : (Value.agg cs).cells.toList.length = fs.size := by
    rw [show (Value.agg cs).cells = cs from rfl, Array.length_toList, hsz, hC]
  have key := sls_of_trod hs hall hcs hf
  have hcs2 : cs.toList.length = 2 := by rw [Array.length_toList, hsz, hC, h2]
  rw [show (Value.agg cs).cells = cs from rfl] at key
  obtain ⟨u, v, huv⟩ : ∃ u v, cs.toList = [u, v] := by
    match hh : cs.toList, hcs2 with
    | [u, v], _ => exact ⟨u, v, rfl⟩
  have he : cs = #[u, v] := by rw [← Array.toList_inj, huv]
  subst he
  obtain ⟨A, l, c, ⟨h1, h3, _, _⟩⟩ := key 0 (by simp)
  obtain ⟨B, k, d, ⟨h4, h5, _, _⟩⟩ := key 1 (by simp)
  simp only [List.getElem_cons_zero, List.getElem_cons_succ] at h1 h4
  subst h1 h4
  exact ⟨A, l, c, B, k, d, rfl, h3, h5⟩

/-- A slice of structs of two slices of ints. -/
theorem openDS {r : Reach} {b0 : Nat} {t e : TypeId} {fs : Array Field} {v : Value} {d : DataW H} {p : List MemPlace} (ht : P.underlying t = some (.slice e)) (hs : P.underlying e = some (.struct fs)) (hall : allSls P fs = true) (hC : P.cellsOf e = fs.size) (h2 : fs.size = 2)
    (hv : Value.okWide P w r b0 t v) (h : DataW.Trod enc P w base spare held t v d p) :
    ∃ (A : Option Addr) (ds : List (List Int × List Int)) (c : Nat), v = .slice A ds.length c ∧ RdD w A ds ∧ ds.length ≤ c ∧ c ≤ maxLen := by
  obtain ⟨a0, len, cap, rfl⟩ := okWide_slice ht hv
  obtain ⟨fuel, hf⟩ := h
  rcases open_slice ht hf with ⟨hcs, _⟩ | ⟨a, len', cap', m, n, D, Pl, hcs, _, hl, hm, hmm, _, hel⟩
  · simp only [Value.cells, List.cons.injEq, Value.slice.injEq, and_true] at hcs
    obtain ⟨rfl, rfl, rfl⟩ := hcs
    exact ⟨none, [], 0, rfl, .inl rfl, Nat.le_refl _, Nat.zero_le _⟩
  · simp only [Value.cells, List.cons.injEq, Value.slice.injEq, and_true] at hcs
    obtain ⟨rfl, rfl, rfl⟩ := hcs
    rw [hC, h2] at hel
    have key : ∀ i, i < len → ∃ q : List Int × List Int, ∃ B n c E k d, w.cell? (a.add (i * 2)) = some (.slice B n c) ∧ w.cell? (a.add (i * 2 + 1)) = some (.slice E k d) ∧ SlI w B n c q.1 ∧ SlI w E k d q.2 := by
      intro i hi
      obtain ⟨cs', hc, htr⟩ := hel i (by rw [hmm]; split <;> omega)
      obtain ⟨_, hcl, hat⟩ := World.cells?_some hc
      have kk := sls_of_trod hs hall (by rw [hcl, h2]) htr
      match cs', hcl with
      | [u, v], _ =>
        obtain ⟨B, l, c, ⟨g1, g3, _, _⟩⟩ := kk 0 (by simp)
        obtain ⟨E, k, d, ⟨g4, g5, _, _⟩⟩ := kk 1 (by simp)
        simp only [List.getElem_cons_zero, List.getElem_cons_succ] at g1 g4
        subst g1 g4
        refine ⟨(l, k), B, l.length, c, E, k.length, d, ?_, ?_, g3, g5⟩
        · have := hat 0 (by omega); rw [add_add] at this; exact this
        · have := hat 1 (by omega); rw [add_add] at this; exact this
    let g : Nat → List Int × List Int := fun i => if h : i < len then Classical.choose (key i h) else ([], [])
    have hg : ∀ i, i < len → ∃ B n c E k d, w.cell? (a.add (i * 2)) = some (.slice B n c) ∧ w.cell? (a.add (i * 2 + 1)) = some (.slice E k d) ∧ SlI w B n c (g i).1 ∧ SlI w E k d (g i).2 := by
      intro i hi
      have := Classical.choose_spec (key i hi)
      simp only [g, hi, dif_pos]
      exact this
    refine ⟨some a, (List.range len).map g, cap, by simp, .inr ⟨a, rfl, ?_⟩, by simpa using hl, hm⟩
    intro j hj
    rw [flD_length, List.length_map, List.length_range] at hj
    obtain ⟨k, hk⟩ : ∃ k, j = k * 2 ∨ j = k * 2 + 1 := ⟨j / 2, by omega⟩
    obtain ⟨B, n1, c1, E, k1, d1, q1, q2, q3, q4⟩ := hg k (by omega)
    have hf2 := flD_get (l := (List.range len).map g) (k := k) (by simp; omega)
    simp only [List.getElem_map, List.getElem_range] at hf2
    rcases hk with rfl | rfl
    · exact ⟨B, n1, c1, q1, by rw [hf2.1]; exact q3.rd, by rw [hf2.1]; exact q3.len, q3.cap, q3.max⟩
    · exact ⟨E, k1, d1, q2, by rw [hf2.2]; exact q4.rd, by rw [hf2.2]; exact q4.len, q4.cap, q4.max⟩
end
end
end Go.Proofs.Ytpfccboighdcbaa
