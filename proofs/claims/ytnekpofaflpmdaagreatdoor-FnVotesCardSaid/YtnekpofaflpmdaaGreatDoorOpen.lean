/- Arguments opened: each reading as data is turned into facts on values and cells; and the last step of a law. -/
import Derived.Test.YtnekpofaflpmdaaGreatDoorBase
import Derived.ProofKit
import Derived.OpenShut
import Derived.Lib.SmallJoins
import Derived.Deep.Slices
import Derived.Deep.Fields
import Derived.ChangeSame
namespace Go.Proofs.YtnekpofaflpmdaaGreatDoor
open Go.ChangeShapes Go.WideShapes Go.ChangeAt Go.RowKit Go.Joins Go.Deep

def Fits (n : Int) : Prop := -9223372036854775808 ≤ n ∧ n ≤ 9223372036854775807
theorem fits_of_wf {n : Int} (h : (Lit.int .i64 n).wf = true) : Fits n := by
  have h1 : IntKind.i64.min = -9223372036854775808 := rfl
  have h2 : IntKind.i64.max = 9223372036854775807 := rfl
  simp only [Lit.wf, Bool.and_eq_true, decide_eq_true_eq] at h
  unfold Fits; omega

section
variable {H : Type} {enc : TypeId × Value → H} {P : Program} {w : World} {base : Nat} {spare : Nat → Bool} {held : Bool}

theorem openI {r : Reach} {b0 : Nat} {t : TypeId} {v : Value} {d : DataW H} {p : List MemPlace} (ht : P.underlying t = some (.int .i64))
    (hv : Value.okWide P w r b0 t v) (h : DataW.Trod enc P w base spare held t v d p) : ∃ n : Int, v = .int .i64 n ∧ Fits n := by
  obtain ⟨n, rfl, _, _, hn⟩ := open_int ht hv h
  exact ⟨n, rfl, fits_of_wf hn⟩

theorem openIS {r : Reach} {b0 : Nat} {t e : TypeId} {v : Value} {d : DataW H} {p : List MemPlace} (ht : P.underlying t = some (.slice e)) (he : P.underlying e = some (.int .i64)) (hc : P.cellsOf e = 1)
    (hv : Value.okWide P w r b0 t v) (h : DataW.Trod enc P w base spare held t v d p) :
    ∃ (A : Option Addr) (l : List Int) (c : Nat), v = .slice A l.length c ∧ RdI w A l ∧ l.length ≤ c ∧ c ≤ maxLen ∧ (A = none → c = 0) ∧ ∀ n ∈ l, Fits n := by
  obtain ⟨a0, len, cap, rfl⟩ := okWide_slice ht hv
  obtain ⟨fuel, hf⟩ := h
  rcases open_ints ht he hc hf with ⟨hcs, _⟩ | ⟨a, len', cap', zs, hcs, _, hl, hm, hz, _, hcell, hwz⟩
  · simp only [Value.cells, List.cons.injEq, Value.slice.injEq, and_true] at hcs
    obtain ⟨rfl, rfl, rfl⟩ := hcs
    exact ⟨none, [], 0, rfl, .inl rfl, Nat.le_refl _, Nat.zero_le _, fun _ => rfl, by simp⟩
  · simp only [Value.cells, List.cons.injEq, Value.slice.injEq, and_true] at hcs
    obtain ⟨rfl, rfl, rfl⟩ := hcs
    have hzl : len ≤ zs.length := by rw [hz]; split <;> omega
    refine ⟨some a, zs.take len, cap, ?_, .inr ⟨a, rfl, fun j u hu => ?_⟩, ?_, hm, by simp, fun n hn => fits_of_wf (hwz n (List.mem_of_mem_take hn))⟩
    · rw [List.length_take, Nat.min_eq_left hzl]
    · simp only [ints, List.getElem?_map, Option.map_eq_some_iff] at hu
      obtain ⟨x, hx, rfl⟩ := hu
      have hj : j < len := by
        have := (List.getElem?_eq_some_iff.1 hx).1
        rw [List.length_take] at this; omega
      rw [hcell j (by omega)]
      rw [List.getElem?_take_of_lt hj] at hx
      simp [List.getD, hx]
    · rw [List.length_take]; omega

/-- All fields are ints. -/
def allInts (P : Program) (fs : Array Field) : Bool := oneCellFields P fs && (List.range fs.size).all fun i => match fs[i]? with
  | some f => (match P.underlying f.type with | some (.int .i64) => true | _ => false)
  | none => false
theorem openAgg {r : Reach} {b0 : Nat} {t : TypeId} {fs : Array Field} {v : Value} {d : DataW H} {p : List MemPlace} (hs : P.underlying t = some (.struct fs)) (hall : allInts P fs = true) (hC : P.cellsOf t = fs.size)
    (hv : Value.okWide P w r b0 t v) (h : DataW.Trod enc P w base spare held t v d p) : ∃ l : List Int, v = .agg (ints l).toArray ∧ l.length = fs.size ∧ ∀ n ∈ l, Fits n := by
  obtain ⟨cs, rfl, hsz⟩ := okWide_struct hs hv
  simp only [allInts, Bool.and_eq_true] at hall
  obtain ⟨hone, hints⟩ := hall
  obtain ⟨fuel, hf⟩ := h
  obtain ⟨xs, n, _, _, hlen, hxl, hg⟩ := DataW.trod_struct hs hf
  have hcs : cs.size = fs.size := hsz.trans hC
  have key : ∀ i, i < fs.size → ∃ m : Int, cs[i]? = some (.int .i64 m) ∧ Fits m := by
    intro i hi
    have hfi : fs[i]? = some fs[i] := Array.getElem?_eq_getElem hi
    obtain ⟨o, c⟩ := hone_of hone i _ hfi
    have h1 := hg i _ hfi
    rw [o, c] at h1
    have h2 := List.all_eq_true.1 hints i (List.mem_range.2 hi)
    simp only [hfi] at h2
    have ht : P.underlying fs[i].type = some (.int .i64) := by
      split at h2
      · assumption
      · cases h2
    have h3 : ((Value.agg cs).cells.toList.drop i).take 1 = [cs[i]] := by
      rw [show (Value.agg cs).cells = cs from rfl, List.drop_eq_getElem_cons (by simpa using by omega)]
      rfl
    rw [h3] at h1
    have h4 : xs[i]? = some (xs[i]'(by omega)) := List.getElem?_eq_getElem (by omega)
    rw [h4] at h1
    obtain ⟨m, hm, _, hw⟩ := DataW.trod_int ht h1
    simp only [List.cons.injEq, and_true] at hm
    exact ⟨m, by rw [Array.getElem?_eq_getElem (by omega), hm], fits_of_wf hw⟩
  refine ⟨(List.range fs.size).map fun i => intOf ((cs[i]?).getD .nilFunc), ?_, by simp, ?_⟩
  · congr 1
    apply Array.ext
    · simp [ints, hcs]
    · intro i h1 h2
      obtain ⟨m, hm, _⟩ := key i (by omega)
      have : cs[i] = .int .i64 m := by
        rw [Array.getElem?_eq_getElem h1] at hm; injection hm
      simp [ints, this, hm, intOf]
  · intro n hn
    simp only [List.mem_map, List.mem_range] at hn
    obtain ⟨i, hi, rfl⟩ := hn
    obtain ⟨m, hm, hw⟩ := key i hi
    simpa [hm, intOf] using hw
theorem openAgg2 {r : Reach} {b0 : Nat} {t : TypeId} {fs : Array Field} {v : Value} {d : DataW H} {p : List MemPlace} (hs : P.underlying t = some (.struct fs)) (hall : allInts P fs = true) (hC : P.cellsOf t = fs.size) (h2 : fs.size = 2)
    (hv : Value.okWide P w r b0 t v) (h : DataW.Trod enc P w base spare held t v d p) : ∃ a b : Int, v = .agg #[.int .i64 a, .int .i64 b] ∧ Fits a ∧ Fits b := by
  obtain ⟨l, rfl, hl, hn⟩ := openAgg hs hall hC hv h
  match l, hl.trans h2 with
  | [a, b], _ => exact ⟨a, b, rfl, hn a (by simp), hn b (by simp)⟩
theorem openAgg3 {r : Reach} {b0 : Nat} {t : TypeId} {fs : Array Field} {v : Value} {d : DataW H} {p : List MemPlace} (hs : P.underlying t = some (.struct fs)) (hall : allInts P fs = true) (hC : P.cellsOf t = fs.size) (h2 : fs.size = 3)
    (hv : Value.okWide P w r b0 t v) (h : DataW.Trod enc P w base spare held t v d p) : ∃ a b c : Int, v = .agg #[.int .i64 a, .int .i64 b, .int .i64 c] ∧ Fits a ∧ Fits b ∧ Fits c := by
  obtain ⟨l, rfl, hl, hn⟩ := openAgg hs hall hC hv h
  match l, hl.trans h2 with
  | [a, b, c], _ => exact ⟨a, b, c, rfl, hn a (by simp), hn b (by simp), hn c (by simp)⟩
theorem openAgg4 {r : Reach} {b0 : Nat} {t : TypeId} {fs : Array Field} {v : Value} {d : DataW H} {p : List MemPlace} (hs : P.underlying t = some (.struct fs)) (hall : allInts P fs = true) (hC : P.cellsOf t = fs.size) (h2 : fs.size = 4)
    (hv : Value.okWide P w r b0 t v) (h : DataW.Trod enc P w base spare held t v d p) : ∃ a b c f : Int, v = .agg #[.int .i64 a, .int .i64 b, .int .i64 c, .int .i64 f] ∧ Fits a ∧ Fits b ∧ Fits c ∧ Fits f := by
  obtain ⟨l, rfl, hl, hn⟩ := openAgg hs hall hC hv h
  match l, hl.trans h2 with
  | [a, b, c, f], _ => exact ⟨a, b, c, f, rfl, hn a (by simp), hn b (by simp), hn c (by simp), hn f (by simp)⟩
theorem openAgg5 {r : Reach} {b0 : Nat} {t : TypeId} {fs : Array Field} {v : Value} {d : DataW H} {p : List MemPlace} (hs : P.underlying t = some (.struct fs)) (hall : allInts P fs = true) (hC : P.cellsOf t = fs.size) (h2 : fs.size = 5)
    (hv : Value.okWide P w r b0 t v) (h : DataW.Trod enc P w base spare held t v d p) : ∃ a b c f g : Int, v = .agg #[.int .i64 a, .int .i64 b, .int .i64 c, .int .i64 f, .int .i64 g] ∧ Fits a ∧ Fits b ∧ Fits c ∧ Fits f ∧ Fits g := by
  obtain ⟨l, rfl, hl, hn⟩ := openAgg hs hall hC hv h
  match l, hl.trans h2 with
  | [a, b, c, f, g], _ => exact ⟨a, b, c, f, g, rfl, hn a (by simp), hn b (by simp), hn c (by simp), hn f (by simp), hn g (by simp)⟩

/-- The law's last step: nothing below the heap's old size has turned, the result is true. -/
theorem post_below {f : Func} {s : ChangeSpec} {apart fresh handsOn again : Bool} {W W' : World} {args : Array Value} {v : Value} {ds gs : List (DataW H)} {before pa pv : List MemPlace}
    (hW : DataW.Whole enc P f.params.toList s.vars apart W args.toList ds gs before)
    (hres : ∀ (b : Nat) (sp : Nat → Bool) (hd : Bool), DataW.TrodAll enc P W' b sp hd f.resultTypes.toList (v.resultList f.resultTypes.size) (s.fn H (ds ++ gs)).results [])
    (hargs : ∀ sp : Nat → Bool, (∀ p ∈ before, sp p.block = true) → DataW.TrodAll enc P W' 0 sp true f.params.toList args.toList (s.fn H (ds ++ gs)).args pa)
    (hvars : ∀ sp : Nat → Bool, (∀ p ∈ before, sp p.block = true) → DataW.TrodVars enc P W' sp s.vars (s.fn H (ds ++ gs)).vars pv)
    (hps : before = pa ++ pv) (hb : Below W.heap.size W W')
    (hok : ∀ (j : Nat) (t : TypeId) (r : Value), f.resultTypes[j]? = some t → (v.resultList f.resultTypes.size)[j]? = some r → Value.okWide P W' .any 0 t r) :
    s.post enc P f apart fresh handsOn again W args v W' := by
  have hlt : ∀ p ∈ before, p.block < W.heap.size := fun p hp => hW.lt p hp
  have hold : ∀ p ∈ before, (fun b => decide (b < W.heap.size)) p.block = true := fun p hp => by simpa using hlt p hp
  refine ⟨ds, gs, before, [], pa, pv, hW, hres _ _ _, hargs _ hold, hvars _ hold, World.keptBut_mono (fun p hp => ⟨hp, ?_⟩) (hb.frame (· ∈ before)), fun _ => ?_⟩
  · rw [hps, List.mem_append] at hp
    exact Or.inr hp
  · obtain ⟨_, _, _, _, _, hz, hn⟩ := hW
    refine ⟨hok, _, _, ([] ++ pa) ++ pv, ⟨[] ++ pa, pv, trodAll_append (hargs _ (fun _ _ => rfl)) (hres _ _ _), hvars _ (fun _ _ => rfl), rfl, ?_, ?_⟩, ?_⟩
    · intro b off hp
      have hin : MemPlace.cell b off ∈ before := by rw [hps]; simpa using hp
      rw [hb.frozen (hlt _ hin)]
      exact hz b off hin
    · intro ha
      have := hn ha
      rw [hps] at this
      simpa using this
    · intro p hp _
      rw [hps]
      simpa using hp
end
/-- A row's closed facts, one by one: each is reckoned by itself. -/
theorem joined_of {P : Program} {f : FuncId} {fn : Func} {s : ChangeSpec} {c : OpenClaim}
    (h0 : c.wf (OpenSpec.ofChange s) = true)
    (h1 : laidOutB P = true)
    (h2 : mapsRowed P = true)
    (h3 : fn.params.all (P.readableRec ·) = true)
    (h4 : namedTie P c.named s.vars = true)
    (h5 : (c.stops == []) = true)
    (h6 : (P.stops == []) = true)
    (h7 : (c.knobs == []) = true)
    (h8 : (P.stopKnobs == []) = true)
    (h9 : (c.inPlace == P.inPlace f) = true)
    (h10 : (c.unfollowed == P.unfollowed f) = true)
    (h11 : (c.recurses == P.recurses f) = true)
    (h12 : (c.named == P.varsNamed f) = true)
    (h13 : (c.maps == (fn.params.toList ++ s.plain.varTypes P).any (P.mapsRec ·)) = true)
    (h14 : (c.ifaces == (fn.params.toList ++ s.plain.varTypes P).any (P.ifacesRec ·)) = true)
    (h15 : (c.mapsOut == P.mapsAmong fn.resultTypes.toList) = true)
    (h16 : (c.loops == (fn.params.toList ++ s.plain.varTypes P).any (P.loopsFrom ·)) = true)
    (h17 : (c.wideKeys == (fn.params.toList ++ s.plain.varTypes P ++ fn.resultTypes.toList).any (P.wideKeysFrom ·)) = true)
    (h18 : s.vars.all (P.varReadable ·) = true)
    (h19 : fn.resultTypes.all (fun t => P.readableRec t && decide (t < P.types.size)) = true)
    (h20 : (c.ifacesOut == fn.resultTypes.toList.any (P.ifacesRec ·)) = true)
    (h21 : (c.loopsOut == fn.resultTypes.toList.any (P.loopsFrom ·)) = true)
    (h22 : (c.plainKeys == P.plainKeys) = true)
    (h23 : c.shortTexts.isNone = true)
    (h24 : P.stopsHeard = true)
    (g1 : P.mayEnter = true)
    (g2 : (c.lifted == P.liftsFinal) = true)
    (g3 : (P.make == some c.make) = true)
    (g4 : (c.kinds == (if c.domain.isEmpty then [] else fn.params.toList.map fun t => match P.underlying t with | some (.int k) => some k | _ => none)) = true)
    (g5 : (c.pinned == c.pinnedBy) = true)
    (h25 : (c.veiled == (fn.params.toList ++ s.plain.varTypes P ++ fn.resultTypes.toList).any (P.veiledRec ·)) = true)
    (h26 : c.veiledFits P fn.params.toList (fn.params.toList ++ s.plain.varTypes P ++ fn.resultTypes.toList) = true) : joinedFacts P f fn s c = true := by
  unfold joinedFacts
  simp only [h0, h1, h2, h3, h4, h5, h6, h7, h8, h9, h10, h11, h12, h13, h14, h15, h16, h17, h18, h19, h20, h21, h22, h23, h24, g1, g2, g3, h25, h26, Bool.and_true, Bool.and_eq_true]
  exact ⟨⟨trivial, g4⟩, g5⟩
end Go.Proofs.YtnekpofaflpmdaaGreatDoor
