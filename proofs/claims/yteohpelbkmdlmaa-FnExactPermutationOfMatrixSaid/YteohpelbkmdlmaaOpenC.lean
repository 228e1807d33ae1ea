/- Arguments opened: slices of pairs of ints, slices of slices of ints. -/
import Derived.Test.YteohpelbkmdlmaaOpen
import Derived.Test.YteohpelbkmdlmaaCiph
import Derived.Test.YteohpelbkmdlmaaGood
import Derived.Deep.Matrix
namespace Go.Proofs.Yteohpelbkmdlmaa
open Go.ChangeShapes Go.WideShapes Go.ChangeAt Go.RowKit Go.Joins Go.Deep

section
variable {H : Type} {enc : TypeId × Value → H} {P : Program} {w : World} {base : Nat} {spare : Nat → Bool} {held : Bool}

theorem trod_allInts {t : TypeId} {fs : Array Field} (hs : P.underlying t = some (.struct fs)) (hall : allInts P fs = true) {fuel : Nat} {cs : List Value} {x : DataW H × List MemPlace} (hcs : cs.length = fs.size)
    (hf : DataW.trod enc P w base spare held fuel t cs = some x) : ∃ l : List Int, cs = ints l ∧ l.length = fs.size ∧ ∀ n ∈ l, Fits n := by
  simp only [allInts, Bool.and_eq_true] at hall
  obtain ⟨hone, hints⟩ := hall
  obtain ⟨xs, n, _, _, hlen, hxl, hg⟩ := DataW.trod_struct hs hf
  have key : ∀ i, (hi : i < cs.length) → ∃ m : Int, cs[i] = .int .i64 m ∧ Fits m := by
    intro i hi
    have hi' : i < fs.size := by omega
    have hfi : fs[i]? = some fs[i] := Array.getElem?_eq_getElem hi'
    obtain ⟨o, c⟩ := hone_of hone i _ hfi
    have h1 := hg i _ hfi
    rw [o, c] at h1
    have h2 := List.all_eq_true.1 hints i (List.mem_range.2 hi')
    simp only [hfi] at h2
    have ht : P.underlying fs[i].type = some (.int .i64) := by
      split at h2
      · assumption
      · cases h2
    have h3 : (cs.drop i).take 1 = [cs[i]] := by
      rw [List.drop_eq_getElem_cons hi]; rfl
    rw [h3] at h1
    have h4 : xs[i]? = some (xs[i]'(by omega)) := List.getElem?_eq_getElem (by omega)
    rw [h4] at h1
    obtain ⟨m, hm, _, hw⟩ := DataW.trod_int ht h1
    simp only [List.cons.injEq, and_true] at hm
    exact ⟨m, hm, fits_of_wf hw⟩
  refine ⟨cs.map intOf, ?_, by simpa using hcs, ?_⟩
  · rw [ints, List.map_map]
    apply List.ext_getElem (by simp)
    intro i h1 h2
    obtain ⟨m, hm, _⟩ := key i h1
    simp [hm, intOf]
  · intro n hn
    obtain ⟨v, hv, rfl⟩ := List.mem_map.1 hn
    obtain ⟨i, hi, rfl⟩ := List.getElem_of_mem hv
    obtain ⟨m, hm, hw⟩ := key i hi
    simpa [hm, intOf] using hw

theorem openGS2 {r : Reach} {b0 : Nat} {t e : TypeId} {fs : Array Field} {v : Value} {d : DataW H} {p : List MemPlace} (ht : P.underlying t = some (.slice e)) (hs : P.underlying e = some (.struct fs)) (hall : allInts P fs = true) (hC : P.cellsOf e = fs.size) (h2 : fs.size = 2)
    (hv : Value.okWide P w r b0 t v) (h : DataW.Trod enc P w base spare held t v d p) :
    ∃ (A : Option Addr) (l : List (Int × Int)) (c : Nat), v = .slice A l.length c ∧ RdC w A l ∧ l.length ≤ c ∧ c ≤ maxLen ∧ (A = none → c = 0) ∧ ∀ n ∈ l, Fits n.1 ∧ Fits n.2 := by
  obtain ⟨a0, len, cap, rfl⟩ := okWide_slice ht hv
  obtain ⟨fuel, hf⟩ := h
  rcases open_slice ht hf with ⟨hcs, _⟩ | ⟨a, len', cap', m, n, D, Pl, hcs, _, hl, hm, hmm, _, hel⟩
  · simp only [Value.cells, List.cons.injEq, Value.slice.injEq, and_true] at hcs
    obtain ⟨rfl, rfl, rfl⟩ := hcs
    exact ⟨none, [], 0, rfl, .inl rfl, Nat.le_refl _, Nat.zero_le _, fun _ => rfl, by simp⟩
  · simp only [Value.cells, List.cons.injEq, Value.slice.injEq, and_true] at hcs
    obtain ⟨rfl, rfl, rfl⟩ := hcs
    rw [hC, h2] at hel
    have key : ∀ i, i < len → ∃ x y : Int, w.cell? (a.add (i * 2)) = some (.int .i64 x) ∧ w.cell? (a.add (i * 2 + 1)) = some (.int .i64 y) ∧ Fits x ∧ Fits y := by
      intro i hi
      obtain ⟨cs', hc, htr⟩ := hel i (by rw [hmm]; split <;> omega)
      obtain ⟨_, hcl, hat⟩ := World.cells?_some hc
      obtain ⟨l, rfl, hll, hn⟩ := trod_allInts hs hall (by rw [hcl, h2]) htr
      match l, hll.trans h2 with
      | [x, y], _ =>
        refine ⟨x, y, ?_, ?_, hn x (by simp), hn y (by simp)⟩
        · have := hat 0 (by omega); rw [add_add] at this; exact this
        · have := hat 1 (by omega); rw [add_add] at this; exact this
    let g : Nat → Int × Int := fun i => if h : i < len then (Classical.choose (key i h), Classical.choose (Classical.choose_spec (key i h))) else (0, 0)
    have hg : ∀ i, i < len → w.cell? (a.add (i * 2)) = some (.int .i64 (g i).1) ∧ w.cell? (a.add (i * 2 + 1)) = some (.int .i64 (g i).2) ∧ Fits (g i).1 ∧ Fits (g i).2 := by
      intro i hi
      have := Classical.choose_spec (Classical.choose_spec (key i hi))
      simp only [g, hi, dif_pos]
      exact this
    refine ⟨some a, (List.range len).map g, cap, by simp, .inr ⟨a, rfl, ?_⟩, by simpa using hl, hm, by simp, ?_⟩
    · intro j u hu
      have hj := (List.getElem?_eq_some_iff.1 hu).1
      rw [cs2_length, List.length_map, List.length_range] at hj
      obtain ⟨k, hk⟩ : ∃ k, j = k * 2 ∨ j = k * 2 + 1 := ⟨j / 2, by omega⟩
      rcases hk with rfl | rfl
      · rw [(cs2_get (k := k) (by simp; omega)).1] at hu
        simp only [List.getElem_map, List.getElem_range, Option.some.injEq] at hu
        subst hu; exact (hg k (by omega)).1
      · rw [(cs2_get (k := k) (by simp; omega)).2] at hu
        simp only [List.getElem_map, List.getElem_range, Option.some.injEq] at hu
        subst hu; exact (hg k (by omega)).2.1
    · intro q hq
      simp only [List.mem_map, List.mem_range] at hq
      obtain ⟨i, hi, rfl⟩ := hq
      exact (hg i hi).2.2

theorem openISS {r : Reach} {b0 : Nat} {t e q : TypeId} {v : Value} {d : DataW H} {p : List MemPlace} (ht : P.underlying t = some (.slice e)) (he : P.underlying e = some (.slice q)) (hq : P.underlying q = some (.int .i64)) (ce : P.cellsOf e = 1) (cq : P.cellsOf q = 1)
    (hv : Value.okWide P w r b0 t v) (h : DataW.Trod enc P w base (fun _ => true) held t v d p) :
    ∃ (A : Option Addr) (l : List (List Int)) (c : Nat), v = .slice A l.length c ∧ RdSS w A l ∧ l.length ≤ c ∧ c ≤ maxLen ∧ (A = none → c = 0) ∧ ∀ n ∈ l, ∀ k ∈ n, Fits k := by
  obtain ⟨a0, len, cap, rfl⟩ := okWide_slice ht hv
  obtain ⟨fuel, hf⟩ := h
  rcases open_int_rows ht he hq ce cq hf with ⟨hcs, _⟩ | ⟨a, len', cap', A, L, C, Z, hcs, _, hl, hm, _, hr⟩
  · simp only [Value.cells, List.cons.injEq, Value.slice.injEq, and_true] at hcs
    obtain ⟨rfl, rfl, rfl⟩ := hcs
    exact ⟨none, [], 0, rfl, .inl rfl, Nat.le_refl _, Nat.zero_le _, fun _ => rfl, by simp⟩
  · simp only [Value.cells, List.cons.injEq, Value.slice.injEq, and_true] at hcs
    obtain ⟨rfl, rfl, rfl⟩ := hcs
    refine ⟨some a, (List.range len).map fun i => (Z i).take (L i), cap, by simp, .inr ⟨a, rfl, fun k hk => ?_⟩, by simpa using hl, hm, by simp, ?_⟩
    · have hk' : k < len := by simpa using hk
      obtain ⟨h1, h2, h3, h4, h5, h6, h7⟩ := hr k (by omega)
      refine ⟨A k, L k, C k, h1, ?_, ?_, h2, h3⟩
      · rw [List.getElem_map, List.getElem_range]
        cases hA : A k with
        | none =>
          left
          have := h6 hA
          simp [ints, show L k = 0 by omega]
        | some a' =>
          refine .inr ⟨a', rfl, fun j u hu => ?_⟩
          simp only [ints, List.getElem?_map, Option.map_eq_some_iff] at hu
          obtain ⟨x, hx, rfl⟩ := hu
          have hj : j < L k := by
            have := (List.getElem?_eq_some_iff.1 hx).1
            rw [List.length_take] at this; omega
          rw [(h7 a' hA).2 j (by omega)]
          rw [List.getElem?_take_of_lt hj] at hx
          simp [List.getD, hx]
      · rw [List.getElem_map, List.getElem_range, List.length_take]; omega
    · intro n hn k hk
      simp only [List.mem_map, List.mem_range] at hn
      obtain ⟨i, hi, rfl⟩ := hn
      obtain ⟨_, _, _, _, h5, _⟩ := hr i (by omega)
      exact fits_of_wf (h5 k (List.mem_of_mem_take hk))
end
end Go.Proofs.Yteohpelbkmdlmaa
