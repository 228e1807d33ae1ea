/- Contracts for ReshareKey: the program's. (Printed by tools/gen_resh.py.) -/
import Derived.Test.YtnhdohjlbchniaaProg
import Derived.Test.YtnhdohjlbchniaaRsP
import Derived.Test.YtnhdohjlbchniaaRefr
import Derived.Test.YtnhdohjlbchniaaHeldL
namespace Go.Proofs.Ytnhdohjlbchniaa
open Go.RowKit
set_option linter.unusedVariables false
set_option linter.unusedSimpArgs false

theorem OwnL.off {w : World} {base t b2 e2 n2 c2 : Nat} {B : Option Addr} {rs : List (Option Addr × Nat × Nat)} {ls : List (List Int)} {ys : List Value} (h : OwnL w base rs ls) (k : OwnW t w b2 e2 B n2 c2 ys) (hne : 3 ≠ e2) : Apart (rowsFp rs) (fpI B) := fun b hb hb' => by
  obtain ⟨r, hr, hbr⟩ := rowsFp_mem.1 hb
  obtain ⟨i, hi, rfl⟩ := List.getElem_of_mem hr
  exact apart_typesW (h.own i hi (by rw [← h.len]; exact hi)).w k hne b hbr hb'
theorem rh_list {p q : Int} {ds : List (List Int × List Int)} {F1 : List Nat} {lam : List Int} {n : Nat} (hF : n ≤ F1.length) (hl : lam.length = n) :
    (((F1.take n).map fun k => ds.getD k ([], [])).zip lam).map (fun d => scD p q d.1 d.2) = (List.range n).map fun t => scD p q (ds.getD (F1.getD t 0) ([], [])) (lam.getD t 0) := by
  apply List.ext_getElem
  · simp; omega
  · intro i h1 h2
    simp at h2
    simp only [List.getElem_map, List.getElem_zip, List.getElem_range, List.getElem_take]
    rw [getD_at 0 (show i < F1.length by omega), getD_at 0 (show i < lam.length by omega)]
theorem rh_sum {p q : Int} {ds : List (List Int × List Int)} {F1 : List Nat} {lam : List Int} {n N M : Nat} (hp : 1 ≤ p) (hq : 0 < q) (hF : n ≤ F1.length) (hl : lam.length = n) (hsp : ∀ k ∈ F1, (ds.getD k ([], [])).1.length = N ∧ (ds.getD k ([], [])).2.length = M)
    {L : List (List Int × List Int)} (hL : L = (List.range n).map fun t => scD p q (ds.getD (F1.getD t 0) ([], [])) (lam.getD t 0)) (h0 : 0 < L.length) :
    sumD p q L[0] (L.drop 1) = ((List.range N).map fun j => cColC p q (((F1.take n).map fun k => ds.getD k ([], [])).zip lam) j 1, (List.range M).map fun j => cColS q (((F1.take n).map fun k => ds.getD k ([], [])).zip lam) j 0) := by
  have hz : (((F1.take n).map fun k => ds.getD k ([], [])).zip lam).map (fun d => scD p q d.1 d.2) = L := by rw [hL]; exact rh_list hF hl
  have hm : ∀ x ∈ ((F1.take n).map fun k => ds.getD k ([], [])).zip lam, x.1.1.length = N ∧ x.1.2.length = M := fun x hx => by
    have h1 := (List.of_mem_zip hx).1
    obtain ⟨k, hk, h2⟩ := List.mem_map.1 h1
    rw [← h2]
    exact hsp k (List.mem_of_mem_take hk)
  clear hL
  generalize ((F1.take n).map fun k => ds.getD k ([], [])).zip lam = Z at *
  subst hz
  cases Z with
  | nil => simp at h0
  | cons d Z => exact sum_cols1 hp hq d Z hm
theorem beq_nat0 (k : Nat) : ((k : Int) == 0) = decide (k = 0) := by
  by_cases h : k = 0
  · subst h; rfl
  · have h2 : ¬ ((k : Int) = 0) := by omega
    rw [decide_eq_false h]; simpa using h2
/-- The guards of ReshareKey, its choice, its coefficients, its answer. -/
noncomputable def rhG (p q g : Int) (cs ixs : List Int) (ds : List (List Int × List Int)) : Bool := (decide (7 < q) && grpB p q g) && ((inR cs.length 1 7 && cs.all (elB p q)) && ((allR ixs 1 7 && diffB ixs) && (decide (ds.length = ixs.length) && dlsB p q ds)))
noncomputable def rhF (p q g : Int) (cs ixs : List Int) (ds : List (List Int × List Int)) : List Nat × List Nat := rsF (rsR p q g cs ixs ds) (rsS ds) ds.length
noncomputable def rhB (p q g : Int) (cs ixs : List Int) (ds : List (List Int × List Int)) : Bool := rhG p q g cs ixs ds && decide (cs.length ≤ (rhF p q g cs ixs ds).1.length)
noncomputable def rhX (p q g : Int) (cs ixs : List Int) (ds : List (List Int × List Int)) : List Int := ((rhF p q g cs ixs ds).1.take cs.length).map fun k => ixs.getD k 0
noncomputable def rhZ (p q g : Int) (cs ixs : List Int) (ds : List (List Int × List Int)) : List ((List Int × List Int) × Int) := (((rhF p q g cs ixs ds).1.take cs.length).map fun k => ds.getD k ([], [])).zip (lagL q (rhX p q g cs ixs ds) 0 cs.length)
noncomputable def rhV (p q g : Int) (cs ixs : List Int) (ds : List (List Int × List Int)) : List Int × List Int :=
  if rhB p q g cs ixs ds then ((List.range (ds.getD ((rhF p q g cs ixs ds).1.headD 0) ([], [])).1.length).map fun j => cColC p q (rhZ p q g cs ixs ds) j 1, (List.range (ds.getD ((rhF p q g cs ixs ds).1.headD 0) ([], [])).2.length).map fun j => cColS q (rhZ p q g cs ixs ds) j 0) else ([], [])
noncomputable def rhO (p q g : Int) (cs ixs : List Int) (ds : List (List Int × List Int)) : List Int := if rhB p q g cs ixs ds then castL (rhF p q g cs ixs ds).2 else []
set_option maxRecDepth 100000 in
set_option maxHeartbeats 8000000 in
theorem iReshareKey_any (p q g : Int) (A : Option Addr) (n c : Nat) (cs : List Int) (B : Option Addr) (m d : Nat) (ixs : List Int) (D : Option Addr) (r e : Nat) (ds : List (List Int × List Int)) (w : World) (ha : SlI w A n c cs) (hb : SlI w B m d ixs) (hd : RdD w D ds) (hl : ds.length = r) (hr : r ≤ 1048576) :
    Calls Try.prog 10 #[.agg #[.int .i64 p, .int .i64 q, .int .i64 g], .slice A n c, .slice B m d, .slice D r e] w fun en w' => ∃ A' n' c' B' m' d' C k e', en = .returned (.tuple #[.agg #[.slice A' n' c', .slice B' m' d'], .slice C k e', .bool (rhB p q g cs ixs ds)]) ∧ OwnK w' w.heap.size A' n' c' B' m' d' (rhV p q g cs ixs ds).1 (rhV p q g cs ixs ds).2 ∧ OwnI w' w.heap.size 3 C k e' (rhO p q g cs ixs ds) ∧ (n' ≤ 1000 ∧ m' ≤ 1000 ∧ k ≤ 1000) ∧ Apart (fpI A' ++ fpI B') (fpI C) ∧ Ext w w' := by
  have HLC := Lib.hid ha.len
  have HLI := Lib.hid hb.len
  have HLD := Lib.hid hl
  have hac := ha.le
  have hbc : m ≤ d ∧ d ≤ maxLen := ⟨hb.cap, hb.max⟩
  have E := (((Ext.refl w).alloc (.cells #[.int .i64 p, .int .i64 q, .int .i64 g] 31)).alloc (.cells #[.slice none 0 0, .slice none 0 0] 28))
  have B0 := ((Blk.new w 31 #[.int .i64 p, .int .i64 q, .int .i64 g]).alloc (.cells #[.slice none 0 0, .slice none 0 0] 28))
  have B1 := (Blk.new (w.alloc (.cells #[.int .i64 p, .int .i64 q, .int .i64 g] 31)) 28 #[.slice none 0 0, .slice none 0 0])
  simp only [World.size_alloc] at B1
  cases h1 : (decide (7 < q) && grpB p q g)
  · have H1 := Lib.hid h1
    have hv : rhB p q g cs ixs ds = false := by unfold rhB rhG; simp only [h1, Bool.true_and, Bool.false_and, Bool.and_false]
    have hvv : rhV p q g cs ixs ds = ([], []) := by unfold rhV; rw [hv]; rfl
    have hvo : rhO p q g cs ixs ds = [] := by unfold rhO; rw [hv]; rfl
    have HV := Lib.hid hv
    have HVV := Lib.hid hvv
    have HVO := Lib.hid hvo
    clear hv hvv hvo
    clear h1
    go_enter Try.func10, Try.ntmps10
    have CC0 := B0.cells
    have CC1 := B1.cells
    go_wp2_with fail
    refine (isSharing_any p q g _).mono ?_
    rintro en w9 ⟨hen, hb9⟩
    rw [H1.out] at hen; subst hen
    replace E := E.trans hb9
    replace B0 := B0.ext hb9
    replace B1 := B1.ext hb9
    clear hb9 CC0 CC1
    have BF := B1
    have FZ := BF.frozen
    have CN := BF.cells
    have CZ := ((BF.set_ 0 (.slice none 0 0)).set_ 1 (.slice none 0 0)).cells
    go_wp2
    refine bodyPost_ret (v := .tuple #[.agg #[.slice none 0 0, .slice none 0 0], .slice none 0 0, .bool false]) (by simp [results, Try.results10, CZ, go_sem]) rfl ⟨none, 0, 0, none, 0, 0, none, 0, 0, by rw [HV.out], by rw [HVV.out]; exact OwnK.nil _ _, by rw [HVO.out]; exact OwnI.nil _ _ _, by omega, fun b hb => by simp [fpI] at hb, E.only1 (by first | exact Nat.le_refl _ | omega | (simp; done) | (simp; omega)) (only_two _ _ _ _ _ _)⟩
  have H1 := Lib.hid h1
  have HG := Lib.hid (grpB_in (g := g) (by simp only [Bool.and_eq_true] at h1; exact h1.2)).bd
  cases h2 : (inR cs.length 1 7 && cs.all (elB p q))
  · have H2 := Lib.hid h2
    have hv : rhB p q g cs ixs ds = false := by unfold rhB rhG; simp only [h1, h2, Bool.true_and, Bool.false_and, Bool.and_false]
    have hvv : rhV p q g cs ixs ds = ([], []) := by unfold rhV; rw [hv]; rfl
    have hvo : rhO p q g cs ixs ds = [] := by unfold rhO; rw [hv]; rfl
    have HV := Lib.hid hv
    have HVV := Lib.hid hvv
    have HVO := Lib.hid hvo
    clear hv hvv hvo
    rw [HLC.out] at H2
    clear h1 h2
    go_enter Try.func10, Try.ntmps10
    have CC0 := B0.cells
    have CC1 := B1.cells
    go_wp2_with fail
    refine (isSharing_any p q g _).mono ?_
    rintro en w9 ⟨hen, hb9⟩
    rw [H1.out] at hen; subst hen
    replace E := E.trans hb9
    replace B0 := B0.ext hb9
    replace B1 := B1.ext hb9
    clear hb9 CC0 CC1
    have CC0 := B0.cells
    have CC1 := B1.cells
    go_wp2_with fail
    refine (areCommits_any p q g A n c cs _ HG.out (ha.ext E).rd HLC.out (by omega)).mono ?_
    rintro en w9 ⟨hen, hb9⟩
    rw [H2.out] at hen; subst hen
    replace E := E.trans hb9
    replace B0 := B0.ext hb9
    replace B1 := B1.ext hb9
    clear hb9 CC0 CC1
    have BF := B1
    have FZ := BF.frozen
    have CN := BF.cells
    have CZ := ((BF.set_ 0 (.slice none 0 0)).set_ 1 (.slice none 0 0)).cells
    go_wp2
    refine bodyPost_ret (v := .tuple #[.agg #[.slice none 0 0, .slice none 0 0], .slice none 0 0, .bool false]) (by simp [results, Try.results10, CZ, go_sem]) rfl ⟨none, 0, 0, none, 0, 0, none, 0, 0, by rw [HV.out], by rw [HVV.out]; exact OwnK.nil _ _, by rw [HVO.out]; exact OwnI.nil _ _ _, by omega, fun b hb => by simp [fpI] at hb, E.only1 (by first | exact Nat.le_refl _ | omega | (simp; done) | (simp; omega)) (only_two _ _ _ _ _ _)⟩
  have H2 := Lib.hid h2
  cases h3 : (allR ixs 1 7 && diffB ixs)
  · have H3 := Lib.hid h3
    have hv : rhB p q g cs ixs ds = false := by unfold rhB rhG; simp only [h1, h2, h3, Bool.true_and, Bool.false_and, Bool.and_false]
    have hvv : rhV p q g cs ixs ds = ([], []) := by unfold rhV; rw [hv]; rfl
    have hvo : rhO p q g cs ixs ds = [] := by unfold rhO; rw [hv]; rfl
    have HV := Lib.hid hv
    have HVV := Lib.hid hvv
    have HVO := Lib.hid hvo
    clear hv hvv hvo
    rw [HLC.out] at H2
    clear h1 h2 h3
    go_enter Try.func10, Try.ntmps10
    have CC0 := B0.cells
    have CC1 := B1.cells
    go_wp2_with fail
    refine (isSharing_any p q g _).mono ?_
    rintro en w9 ⟨hen, hb9⟩
    rw [H1.out] at hen; subst hen
    replace E := E.trans hb9
    replace B0 := B0.ext hb9
    replace B1 := B1.ext hb9
    clear hb9 CC0 CC1
    have CC0 := B0.cells
    have CC1 := B1.cells
    go_wp2_with fail
    refine (areCommits_any p q g A n c cs _ HG.out (ha.ext E).rd HLC.out (by omega)).mono ?_
    rintro en w9 ⟨hen, hb9⟩
    rw [H2.out] at hen; subst hen
    replace E := E.trans hb9
    replace B0 := B0.ext hb9
    replace B1 := B1.ext hb9
    clear hb9 CC0 CC1
    have CC0 := B0.cells
    have CC1 := B1.cells
    go_wp2_with fail
    refine (areTrustees_any B m d ixs _ (hb.ext E).rd HLI.out hbc.1 hbc.2).mono ?_
    rintro en w9 ⟨hen, hb9⟩
    rw [H3.out] at hen; subst hen
    replace E := E.trans hb9
    replace B0 := B0.ext hb9
    replace B1 := B1.ext hb9
    clear hb9 CC0 CC1
    have BF := B1
    have FZ := BF.frozen
    have CN := BF.cells
    have CZ := ((BF.set_ 0 (.slice none 0 0)).set_ 1 (.slice none 0 0)).cells
    go_wp2
    refine bodyPost_ret (v := .tuple #[.agg #[.slice none 0 0, .slice none 0 0], .slice none 0 0, .bool false]) (by simp [results, Try.results10, CZ, go_sem]) rfl ⟨none, 0, 0, none, 0, 0, none, 0, 0, by rw [HV.out], by rw [HVV.out]; exact OwnK.nil _ _, by rw [HVO.out]; exact OwnI.nil _ _ _, by omega, fun b hb => by simp [fpI] at hb, E.only1 (by first | exact Nat.le_refl _ | omega | (simp; done) | (simp; omega)) (only_two _ _ _ _ _ _)⟩
  have H3 := Lib.hid h3
  cases h4 : decide (ds.length = ixs.length)
  · have H4 := Lib.hid h4
    have hv : rhB p q g cs ixs ds = false := by unfold rhB rhG; simp only [h1, h2, h3, h4, Bool.true_and, Bool.false_and, Bool.and_false]
    have hvv : rhV p q g cs ixs ds = ([], []) := by unfold rhV; rw [hv]; rfl
    have hvo : rhO p q g cs ixs ds = [] := by unfold rhO; rw [hv]; rfl
    have HV := Lib.hid hv
    have HVV := Lib.hid hvv
    have HVO := Lib.hid hvo
    clear hv hvv hvo
    rw [HLC.out] at H2
    have hne : ((r : Int) != (m : Int)) = true := by have := of_decide_eq_false h4; have h8 := HLI.out; have h9 := HLD.out; simp; omega
    clear h1 h2 h3 h4
    go_enter Try.func10, Try.ntmps10
    have CC0 := B0.cells
    have CC1 := B1.cells
    go_wp2_with fail
    refine (isSharing_any p q g _).mono ?_
    rintro en w9 ⟨hen, hb9⟩
    rw [H1.out] at hen; subst hen
    replace E := E.trans hb9
    replace B0 := B0.ext hb9
    replace B1 := B1.ext hb9
    clear hb9 CC0 CC1
    have CC0 := B0.cells
    have CC1 := B1.cells
    go_wp2_with fail
    refine (areCommits_any p q g A n c cs _ HG.out (ha.ext E).rd HLC.out (by omega)).mono ?_
    rintro en w9 ⟨hen, hb9⟩
    rw [H2.out] at hen; subst hen
    replace E := E.trans hb9
    replace B0 := B0.ext hb9
    replace B1 := B1.ext hb9
    clear hb9 CC0 CC1
    have CC0 := B0.cells
    have CC1 := B1.cells
    go_wp2_with fail
    refine (areTrustees_any B m d ixs _ (hb.ext E).rd HLI.out hbc.1 hbc.2).mono ?_
    rintro en w9 ⟨hen, hb9⟩
    rw [H3.out] at hen; subst hen
    replace E := E.trans hb9
    replace B0 := B0.ext hb9
    replace B1 := B1.ext hb9
    clear hb9 CC0 CC1
    have BF := B1
    have FZ := BF.frozen
    have CN := BF.cells
    have CZ := ((BF.set_ 0 (.slice none 0 0)).set_ 1 (.slice none 0 0)).cells
    go_wp2
    refine bodyPost_ret (v := .tuple #[.agg #[.slice none 0 0, .slice none 0 0], .slice none 0 0, .bool false]) (by simp [results, Try.results10, CZ, go_sem]) rfl ⟨none, 0, 0, none, 0, 0, none, 0, 0, by rw [HV.out], by rw [HVV.out]; exact OwnK.nil _ _, by rw [HVO.out]; exact OwnI.nil _ _ _, by omega, fun b hb => by simp [fpI] at hb, E.only1 (by first | exact Nat.le_refl _ | omega | (simp; done) | (simp; omega)) (only_two _ _ _ _ _ _)⟩
  have H4 := Lib.hid h4
  cases h5 : dlsB p q ds
  · have H5 := Lib.hid h5
    have hv : rhB p q g cs ixs ds = false := by unfold rhB rhG; simp only [h1, h2, h3, h4, h5, Bool.true_and, Bool.false_and, Bool.and_false]
    have hvv : rhV p q g cs ixs ds = ([], []) := by unfold rhV; rw [hv]; rfl
    have hvo : rhO p q g cs ixs ds = [] := by unfold rhO; rw [hv]; rfl
    have HV := Lib.hid hv
    have HVV := Lib.hid hvv
    have HVO := Lib.hid hvo
    clear hv hvv hvo
    rw [HLC.out] at H2
    have hne : ((r : Int) != (m : Int)) = false := by have := of_decide_eq_true h4; have h8 := HLI.out; have h9 := HLD.out; simp; omega
    clear h1 h2 h3 h4 h5
    go_enter Try.func10, Try.ntmps10
    have CC0 := B0.cells
    have CC1 := B1.cells
    go_wp2_with fail
    refine (isSharing_any p q g _).mono ?_
    rintro en w9 ⟨hen, hb9⟩
    rw [H1.out] at hen; subst hen
    replace E := E.trans hb9
    replace B0 := B0.ext hb9
    replace B1 := B1.ext hb9
    clear hb9 CC0 CC1
    have CC0 := B0.cells
    have CC1 := B1.cells
    go_wp2_with fail
    refine (areCommits_any p q g A n c cs _ HG.out (ha.ext E).rd HLC.out (by omega)).mono ?_
    rintro en w9 ⟨hen, hb9⟩
    rw [H2.out] at hen; subst hen
    replace E := E.trans hb9
    replace B0 := B0.ext hb9
    replace B1 := B1.ext hb9
    clear hb9 CC0 CC1
    have CC0 := B0.cells
    have CC1 := B1.cells
    go_wp2_with fail
    refine (areTrustees_any B m d ixs _ (hb.ext E).rd HLI.out hbc.1 hbc.2).mono ?_
    rintro en w9 ⟨hen, hb9⟩
    rw [H3.out] at hen; subst hen
    replace E := E.trans hb9
    replace B0 := B0.ext hb9
    replace B1 := B1.ext hb9
    clear hb9 CC0 CC1
    have CC0 := B0.cells
    have CC1 := B1.cells
    go_wp2_with fail
    refine (hasDealings_any p q g D r e ds _ HG.out (hd.ext E) HLD.out (by unfold maxLen; omega)).mono ?_
    rintro en w9 ⟨hen, hb9⟩
    rw [H5.out] at hen; subst hen
    replace E := E.trans hb9
    replace B0 := B0.ext hb9
    replace B1 := B1.ext hb9
    clear hb9 CC0 CC1
    have BF := B1
    have FZ := BF.frozen
    have CN := BF.cells
    have CZ := ((BF.set_ 0 (.slice none 0 0)).set_ 1 (.slice none 0 0)).cells
    go_wp2
    refine bodyPost_ret (v := .tuple #[.agg #[.slice none 0 0, .slice none 0 0], .slice none 0 0, .bool false]) (by simp [results, Try.results10, CZ, go_sem]) rfl ⟨none, 0, 0, none, 0, 0, none, 0, 0, by rw [HV.out], by rw [HVV.out]; exact OwnK.nil _ _, by rw [HVO.out]; exact OwnI.nil _ _ _, by omega, fun b hb => by simp [fpI] at hb, E.only1 (by first | exact Nat.le_refl _ | omega | (simp; done) | (simp; omega)) (only_two _ _ _ _ _ _)⟩
  have H5 := Lib.hid h5
  rw [HLC.out] at H2
  have hrm : r = m := by have := of_decide_eq_true h4; have h8 := HLI.out; have h9 := HLD.out; omega
  have hne : ((r : Int) != (m : Int)) = false := by simp; omega
  have hgg : grpB p q g = true := by simp only [Bool.and_eq_true] at h1; exact h1.2
  have hq7 : 7 < q := by simp only [Bool.and_eq_true] at h1; exact of_decide_eq_true h1.1
  have HGG := Lib.hid hgg
  have hGI := grpB_in hgg
  have hq2 := hGI.q2
  have hp9 := hGI.p9
  have hqp := hGI.qp
  have hcr : (∀ y ∈ cs, 0 ≤ y ∧ y ≤ 3000000000) ∧ 1 ≤ n ∧ n ≤ 7 := by
    simp only [Bool.and_eq_true] at h2
    have := inR_iff.1 h2.1
    have h8 := HLC.out
    exact ⟨els_rg hGI.p9 h2.2, by omega, by omega⟩
  obtain ⟨hcs, hn1, hn7⟩ := hcr
  have hix : ∀ y ∈ ixs, 1 ≤ y ∧ y ≤ 7 := by
    simp only [Bool.and_eq_true] at h3
    exact allR_iff.1 h3.1
  have hG5 : rhG p q g cs ixs ds = true := by simp only [rhG, h1, h2, h3, h4, h5, Bool.and_self]
  have HG5 := Lib.hid hG5
  have HCS := Lib.hid hcs
  have HIX := Lib.hid hix
  have HDV := Lib.hid (dls_in h5).2
  have hds := (dls_in h5).1
  have hr7 : r ≤ 7 := by have h9 := HLD.out; omega
  have HRM := Lib.hid hrm
  clear hrm
  clear h1 h2 h3 h4 h5 hgg hG5 hcs hix hds
  go_enter Try.func10, Try.ntmps10
  have CC0 := B0.cells
  have CC1 := B1.cells
  go_wp2_with fail
  refine (isSharing_any p q g _).mono ?_
  rintro en w9 ⟨hen, hb9⟩
  rw [H1.out] at hen; subst hen
  replace E := E.trans hb9
  replace B0 := B0.ext hb9
  replace B1 := B1.ext hb9
  clear hb9 CC0 CC1
  have CC0 := B0.cells
  have CC1 := B1.cells
  go_wp2_with fail
  refine (areCommits_any p q g A n c cs _ HG.out (ha.ext E).rd HLC.out (by omega)).mono ?_
  rintro en w9 ⟨hen, hb9⟩
  rw [H2.out] at hen; subst hen
  replace E := E.trans hb9
  replace B0 := B0.ext hb9
  replace B1 := B1.ext hb9
  clear hb9 CC0 CC1
  have CC0 := B0.cells
  have CC1 := B1.cells
  go_wp2_with fail
  refine (areTrustees_any B m d ixs _ (hb.ext E).rd HLI.out hbc.1 hbc.2).mono ?_
  rintro en w9 ⟨hen, hb9⟩
  rw [H3.out] at hen; subst hen
  replace E := E.trans hb9
  replace B0 := B0.ext hb9
  replace B1 := B1.ext hb9
  clear hb9 CC0 CC1
  have CC0 := B0.cells
  have CC1 := B1.cells
  go_wp2_with fail
  refine (hasDealings_any p q g D r e ds _ HG.out (hd.ext E) HLD.out (by unfold maxLen; omega)).mono ?_
  rintro en w9 ⟨hen, hb9⟩
  rw [H5.out] at hen; subst hen
  replace E := E.trans hb9
  replace B0 := B0.ext hb9
  replace B1 := B1.ext hb9
  clear hb9 CC0 CC1
  have E00 := ((Ext.refl w9).alloc (.cells #[] 3)).alloc (.cells #[] 3)
  have hU0 : OwnI ((w9.alloc (.cells #[] 3)).alloc (.cells #[] 3)) w9.heap.size 3 (some ⟨w9.heap.size, 0, none⟩) 0 0 [] := (ownI_lit (n := 0) (w := w9) [] rfl rfl (Nat.le_refl _) (Nat.zero_le _)).ext ((Ext.refl _).alloc _)
  have hX0 : OwnI ((w9.alloc (.cells #[] 3)).alloc (.cells #[] 3)) w9.heap.size 3 (some ⟨w9.heap.size + 1, 0, none⟩) 0 0 [] := ownI_lit (n := 0) (w := w9.alloc (.cells #[] 3)) [] rfl (by simp) (by simp) (Nat.zero_le _)
  have hap0 : Apart (fpI (some ⟨w9.heap.size, 0, none⟩)) (fpI (some ⟨w9.heap.size + 1, 0, none⟩)) := fun b hb hb' => by simp [fpI] at hb hb'; omega
  have EW := E
  go_wp2
  go_loopw [11, 12, 60] (fun us os k wr => ∃ (j : Nat) (U : Option Addr) (u uc : Nat) (X : Option Addr) (x xc : Nat), j ≤ r ∧ k = .int .i64 j ∧ us = .slice U u uc ∧ os = .slice X x xc ∧ u ≤ j ∧ x ≤ j ∧ OwnI wr w9.heap.size 3 U u uc (castL (rsF (rsR p q g cs ixs ds) (rsS ds) j).1) ∧ OwnI wr w9.heap.size 3 X x xc (castL (rsF (rsR p q g cs ixs ds) (rsS ds) j).2) ∧ Apart (fpI U) (fpI X) ∧ Ext w9 wr) (fun _ _ k _ => r - (intOf k).toNat)
  case atStart => exact ⟨0, _, 0, _, _, 0, _, Nat.zero_le _, rfl, rfl, rfl, Nat.le_refl _, Nat.le_refl _, hU0, hX0, hap0, E00⟩
  case round =>
    obtain ⟨j, U, u, uc, X, x, xc, hj, rfl, rfl, rfl, huj, hxj, hU, hX, hap, E2⟩ := hrel
    clear hU0 hX0 hap0 E00
    by_cases hlt : j < r
    · have hjd : j < ds.length := by have := HLD.out; omega
      have hjm : j < ixs.length := by have := HLI.out; have := HRM.out; omega
      obtain ⟨ad, hDA, A1, n1, c1, A2, m1, d1, hc0, hdd0, s10, s20⟩ := (hd.ext E).at_ hjd
      subst hDA
      obtain ⟨bd, hBA, hi0⟩ := (hb.ext E).rd.at_ hjm
      subst hBA
      have hc := E2.cell hc0
      have hdd := E2.cell hdd0
      have s1 := s10.ext E2
      have s2 := s20.ext E2
      have hdf := dlF HGG.out (HDV.out _ (List.getElem_mem hjd))
      have hrj : rsR p q g cs ixs ds j = (((ds[j].1.getD 0 0) == comO p q cs ixs[j] cs.length) && decide ((badL p q g ds[j].1 ds[j].2 ds[j].2.length).length = 0)) := by unfold rsR; rw [getD_at _ hjd, getD_at _ hjm]
      have hi7 := HIX.out _ (List.getElem_mem hjm)
      have hsj : ∀ k, rsS ds j k = (decide (ds[j].1.length = (ds.getD k ([], [])).1.length) && decide (ds[j].2.length = (ds.getD k ([], [])).2.length)) := fun k => by unfold rsS; rw [getD_at _ hjd]
      have hnx := rsF_succ (rsR p q g cs ixs ds) (rsS ds) j
      generalize ds[j] = dd at *
      generalize ixs[j] = ij at *
      have hl1 := s1.len
      have hl2 := s2.len
      have hpos : 0 < dd.1.length := hdf.c1
      obtain ⟨ac, hAC, hx0⟩ := s1.rd.at_ hpos
      subst hAC
      have hx := (Ext.refl wr).alloc (.cells #[.slice (some ac) n1 c1, .slice A2 m1 d1] 68)
      have B3 := Blk.new wr 68 #[.slice (some ac) n1 c1, .slice A2 m1 d1]
      obtain ⟨x0, hx00⟩ : ∃ x0, dd.1[0] = x0 := ⟨_, rfl⟩
      obtain ⟨cv, hcv⟩ : ∃ cv, comO p q cs ij n = cv := ⟨_, rfl⟩
      obtain ⟨bl, hbl⟩ : ∃ bl, badL p q g dd.1 dd.2 m1 = bl := ⟨_, rfl⟩
      rw [hx00] at hx0
      have HCV := Lib.hid hcv
      have HBL := Lib.hid hbl
      obtain ⟨R0, hR0⟩ : ∃ R0, ((x0 == cv) && decide (bl.length = 0)) = R0 := ⟨_, rfl⟩
      have HR0 := Lib.hid hR0
      have HRJ : Hid (rsR p q g cs ixs ds j = R0) := by show _ = _; rw [hrj, getD_at _ hpos, hx00, HLC.out, hcv, hl2, hbl, hR0]
      rcases hs : rsF (rsR p q g cs ixs ds) (rsS ds) j with ⟨L1, L2⟩
      rw [hs] at hU hX hnx
      obtain ⟨Zv, hZ⟩ : ∃ Zv, (R0 && (L1.isEmpty || rsS ds j (L1.headD 0))) = Zv := ⟨_, rfl⟩
      have HZ := Lib.hid hZ
      have HNX : Hid (rsF (rsR p q g cs ixs ds) (rsS ds) (j + 1) = if Zv = true then (L1 ++ [j], L2) else (L1, L2 ++ [j])) := by show _ = _; rw [hnx]; unfold rsStep; rw [HRJ.out, hZ]
      have HSJ := Lib.hid hsj
      have hlt1 : ∀ k ∈ L1, k < j := by have := (rsF_in (rsR p q g cs ixs ds) (rsS ds) j).1; rw [hs] at this; exact fun k hk => (this k hk).1
      have HL1 := Lib.hid hlt1
      clear hcv hbl hx00 hrj hnx hsj hc0 hdd0 hR0 hZ hs hlt1
      have hEb := E.trans (E2.trans hx)
      replace hi0 := (E2.trans hx).cell hi0
      replace hx0 := hx.cell hx0
      have hb1 : (0 : Int) < (n1 : Int) := by omega
      have hb1n : 0 < n1 := by omega
      have hb2 : (j : Int) < (m : Int) := by have := HRM.out; omega
      have hb3 : (0 : Int) ≤ (j : Int) := by omega
      have hsx := hx.size
      replace hU := hU.ext hx
      replace hX := hX.ext hx
      replace s1 := s1.ext hx
      replace s2 := s2.ext hx
      have E3 := E2.trans hx
      go_upto_region 7 with (fail)
      clear hc hdd hx
      generalize hWb : wr.alloc (.cells #[.slice (some ac) n1 c1, .slice A2 m1 d1] 68) = Wb at *
      generalize hgd : wr.heap.size = gd at *
      clear hWb hgd
      have hS : ∀ V, Ext Wb V → V.cell? ⟨w.heap.size, 0, none⟩ = some (.int .i64 p) ∧ V.cell? ⟨w.heap.size, 1, none⟩ = some (.int .i64 q) ∧ V.cell? ⟨w.heap.size, 2, none⟩ = some (.int .i64 g) ∧ V.cell? ⟨gd, 0, none⟩ = some (.slice (some ac) n1 c1) ∧ V.cell? ⟨gd, 1, none⟩ = some (.slice A2 m1 d1) ∧ V.cell? ac = some (.int .i64 x0) ∧ V.cell? (bd.add j) = some (.int .i64 ij) := fun V hV => by
        have a0 := (B0.ext (E3.trans hV)).cells
        have a3 := (B3.ext hV).cells
        exact ⟨a0 0, a0 1, a0 2, a3 0, a3 1, hV.cell hx0, hV.cell hi0⟩
      go_cut [15] from 65 to 83 (fun b wx => b = .bool R0 ∧ Ext Wb wx)
      case first =>
        cases h7 : (x0 == cv)
        case false =>
          refine wp_region_held_drew (S := fun V => V.cell? ⟨w.heap.size, 0, none⟩ = some (.int .i64 p) ∧ V.cell? ⟨w.heap.size, 1, none⟩ = some (.int .i64 q) ∧ V.cell? ⟨w.heap.size, 2, none⟩ = some (.int .i64 g) ∧ V.cell? ⟨gd, 0, none⟩ = some (.slice (some ac) n1 c1) ∧ V.cell? ⟨gd, 1, none⟩ = some (.slice A2 m1 d1) ∧ V.cell? ac = some (.int .i64 x0) ∧ V.cell? (bd.add j) = some (.int .i64 ij)) (by kernel_rfl) ?_ (fun hHeld => ?_)
          · exact hS _ (by repeat (first | with_reducible assumption | with_reducible exact Ext.refl _ | with_reducible apply Ext.alloc | with_reducible apply Ext.drew | with_reducible apply Ext.drewN))
          refine' wpAnyH_take (i := 0) (v := _) ?hi0 (by kernel_rfl) (by kernel_rfl) (by kernel_rfl) ?hQ0 ?hy0 (by assumption) ?_
          case hi0 => (simp only [List.getElem?_toArray, List.getElem?_cons_zero]; rfl)
          case hy0 => refine Or.inl ⟨by rfl, ?_⟩; intro w hSw; (try dsimp only at hSw); go_simp <;> with_reducible rfl
          case hQ0 => exact fun _ _ _ h => h
          try simp only [Act.put, List.setIfInBounds_toArray, List.set_cons_zero, List.set_cons_succ]
          refine' wpAnyH_take (i := 1) (v := _) ?hi1 (by kernel_rfl) (by kernel_rfl) (by kernel_rfl) ?hQ1 ?hy1 (by assumption) ?_
          case hi1 => (simp only [List.getElem?_toArray, List.getElem?_cons_succ, List.getElem?_cons_zero]; rfl)
          case hy1 => refine Or.inl ⟨by rfl, ?_⟩; intro w hSw; (try dsimp only at hSw); go_simp <;> with_reducible rfl
          case hQ1 => exact fun _ _ _ h => h
          try simp only [Act.put, List.setIfInBounds_toArray, List.set_cons_zero, List.set_cons_succ]
          refine' wpAnyH_take (i := 2) (v := _) ?hi2 (by kernel_rfl) (by kernel_rfl) (by kernel_rfl) ?hQ2 ?hy2 (by assumption) ?_
          case hi2 => (simp only [List.getElem?_toArray, List.getElem?_cons_succ, List.getElem?_cons_zero]; rfl)
          case hy2 => refine Or.inl ⟨by rfl, ?_⟩; intro w hSw; (try dsimp only at hSw); go_simp <;> with_reducible rfl
          case hQ2 => exact fun _ _ _ h => h
          try simp only [Act.put, List.setIfInBounds_toArray, List.set_cons_zero, List.set_cons_succ]
          refine' wpAnyH_take (i := 3) (v := _) ?hi3 (by kernel_rfl) (by kernel_rfl) (by kernel_rfl) ?hQ3 ?hy3 (by assumption) ?_
          case hi3 => (simp only [List.getElem?_toArray, List.getElem?_cons_succ, List.getElem?_cons_zero]; rfl)
          case hy3 => refine Or.inl ⟨by rfl, ?_⟩; intro w hSw; (try dsimp only at hSw); go_simp <;> with_reducible rfl
          case hQ3 => exact fun _ _ _ h => h
          try simp only [Act.put, List.setIfInBounds_toArray, List.set_cons_zero, List.set_cons_succ]
          refine' wpAnyH_take (i := 4) (v := _) ?hi4 (by kernel_rfl) (by kernel_rfl) (by kernel_rfl) ?hQ4 ?hy4 (by assumption) ?_
          case hi4 => (simp only [List.getElem?_toArray, List.getElem?_cons_succ, List.getElem?_cons_zero]; rfl)
          case hy4 => refine Or.inl ⟨by rfl, ?_⟩; intro w hSw; (try dsimp only at hSw); go_simp <;> with_reducible rfl
          case hQ4 => exact fun _ _ _ h => h
          try simp only [Act.put, List.setIfInBounds_toArray, List.set_cons_zero, List.set_cons_succ]
          refine' wpAnyH_take (i := 5) (v := _) ?hi5 (by kernel_rfl) (by kernel_rfl) (by kernel_rfl) ?hQ5 ?hy5 (by assumption) ?_
          case hi5 => (simp only [List.getElem?_toArray, List.getElem?_cons_succ, List.getElem?_cons_zero]; rfl)
          case hy5 => refine Or.inl ⟨by rfl, ?_⟩; intro w hSw; (try dsimp only at hSw); go_simp <;> with_reducible rfl
          case hQ5 => exact fun _ _ _ h => h
          try simp only [Act.put, List.setIfInBounds_toArray, List.set_cons_zero, List.set_cons_succ]
          refine' wpAnyH_take (i := 6) (v := _) ?hi6 (by kernel_rfl) (by kernel_rfl) (by kernel_rfl) ?hQ6 ?hy6 (by assumption) ?_
          case hi6 => (simp only [List.getElem?_toArray, List.getElem?_cons_succ, List.getElem?_cons_zero]; rfl)
          case hy6 => refine Or.inl ⟨by rfl, ?_⟩; intro w hSw; (try dsimp only at hSw); go_simp <;> with_reducible rfl
          case hQ6 => exact fun _ _ _ h => h
          try simp only [Act.put, List.setIfInBounds_toArray, List.set_cons_zero, List.set_cons_succ]
          refine' wpAnyH_take (i := 7) (v := _) ?hi7 (by kernel_rfl) (by kernel_rfl) (by kernel_rfl) ?hQ7 ?hy7 (by assumption) ?_
          case hi7 => (simp only [List.getElem?_toArray, List.getElem?_cons_succ, List.getElem?_cons_zero]; rfl)
          case hy7 => refine Or.inl ⟨by rfl, ?_⟩; intro w hSw; (try dsimp only at hSw); go_simp <;> with_reducible rfl
          case hQ7 => exact fun _ _ _ h => h
          try simp only [Act.put, List.setIfInBounds_toArray, List.set_cons_zero, List.set_cons_succ]
          refine' wpAnyH_take (i := 8) (v := _) ?hi8 (by kernel_rfl) (by kernel_rfl) (by kernel_rfl) ?hQ8 ?hy8 (by assumption) ?_
          case hi8 => (simp only [List.getElem?_toArray, List.getElem?_cons_succ, List.getElem?_cons_zero]; rfl)
          case hy8 => refine Or.inl ⟨by rfl, ?_⟩; intro w hSw; (try dsimp only at hSw); go_simp <;> with_reducible rfl
          case hQ8 => exact fun _ _ _ h => h
          try simp only [Act.put, List.setIfInBounds_toArray, List.set_cons_zero, List.set_cons_succ]
          refine' wpAnyH_take (i := 9) (v := _) ?hi9 (by kernel_rfl) (by kernel_rfl) (by kernel_rfl) ?hQ9 ?hy9 (by assumption) ?_
          case hi9 => (simp only [List.getElem?_toArray, List.getElem?_cons_succ, List.getElem?_cons_zero]; rfl)
          case hy9 => refine Or.inl ⟨by rfl, ?_⟩; intro w hSw; (try dsimp only at hSw); go_simp <;> with_reducible rfl
          case hQ9 => exact fun _ _ _ h => h
          try simp only [Act.put, List.setIfInBounds_toArray, List.set_cons_zero, List.set_cons_succ]
          refine wpAnyH_ready (rs := [10]) (by kernel_rfl) (by simp) ?_
          refine AllReadyH.cons rfl (fun KK hKK => ?_) ?_
          · go_simp
            go_at_call 45
            refine (commitAt_any p q g ij A n c cs _ HG.out (by omega) (by omega) (by omega) (RdI.ext ha.rd (Ext.trans hEb (by repeat (first | with_reducible assumption | with_reducible exact Ext.refl _ | with_reducible apply Ext.alloc | with_reducible apply Ext.drew | with_reducible apply Ext.drewN)))) HLC.out (by omega) HCS.out).mono ?_
            rintro ek wk10 ⟨hek, hbk10⟩
            rw [HCV.out] at hek; subst hek
            have hxk10 := Ext.trans (w := Wb) (by repeat (first | with_reducible assumption | with_reducible exact Ext.refl _ | with_reducible apply Ext.alloc | with_reducible apply Ext.drew | with_reducible apply Ext.drewN)) hbk10
            refine hKK.out _ _ ?_ (fun hHeld => ?_)
            · exact hS _ (by repeat (first | with_reducible assumption | with_reducible exact Ext.refl _ | with_reducible apply Ext.alloc | with_reducible apply Ext.drew | with_reducible apply Ext.drewN))
            clear hKK KK
            try simp only [Act.put, List.setIfInBounds_toArray, List.set_cons_zero, List.set_cons_succ]
            refine' wpAnyH_take (i := 11) (v := _) ?hi11 (by kernel_rfl) (by kernel_rfl) (by kernel_rfl) ?hQ11 ?hy11 (by assumption) ?_
            case hi11 => (simp only [List.getElem?_toArray, List.getElem?_cons_succ, List.getElem?_cons_zero]; rfl)
            case hy11 => refine Or.inl ⟨by rfl, ?_⟩; intro w hSw; (try dsimp only at hSw); go_simp <;> with_reducible rfl
            case hQ11 => exact fun _ _ _ h => h
            try simp only [Act.put, List.setIfInBounds_toArray, List.set_cons_zero, List.set_cons_succ]
            refine' wpAnyH_take (i := 12) (v := _) ?hi12 (by kernel_rfl) (by kernel_rfl) (by kernel_rfl) ?hQ12 ?hy12 (by assumption) ?_
            case hi12 => (simp only [List.getElem?_toArray, List.getElem?_cons_succ, List.getElem?_cons_zero]; rfl)
            case hy12 => refine Or.inl ⟨by rfl, ?_⟩; intro w hSw; (try dsimp only at hSw); go_simp <;> with_reducible rfl
            case hQ12 => exact fun _ _ _ h => h
            try simp only [Act.put, List.setIfInBounds_toArray, List.set_cons_zero, List.set_cons_succ]
            refine' wpAnyH_take (i := 13) (v := undef) ?hi13 (by kernel_rfl) (by kernel_rfl) (by kernel_rfl) ?hQ13 ?hy13 (by assumption) ?_
            case hi13 => (simp only [List.getElem?_toArray, List.getElem?_cons_succ, List.getElem?_cons_zero]; rfl)
            case hQ13 => exact fun _ _ _ h => h
            case hy13 => exact Or.inr ⟨by rfl, rfl⟩
            try simp only [Act.put, List.setIfInBounds_toArray, List.set_cons_zero, List.set_cons_succ]
            refine' wpAnyH_take (i := 14) (v := undef) ?hi14 (by kernel_rfl) (by kernel_rfl) (by kernel_rfl) ?hQ14 ?hy14 (by assumption) ?_
            case hi14 => (simp only [List.getElem?_toArray, List.getElem?_cons_succ, List.getElem?_cons_zero]; rfl)
            case hQ14 => exact fun _ _ _ h => h
            case hy14 => exact Or.inr ⟨by rfl, rfl⟩
            try simp only [Act.put, List.setIfInBounds_toArray, List.set_cons_zero, List.set_cons_succ]
            refine' wpAnyH_take (i := 15) (v := undef) ?hi15 (by kernel_rfl) (by kernel_rfl) (by kernel_rfl) ?hQ15 ?hy15 (by assumption) ?_
            case hi15 => (simp only [List.getElem?_toArray, List.getElem?_cons_succ, List.getElem?_cons_zero]; rfl)
            case hQ15 => exact fun _ _ _ h => h
            case hy15 => exact Or.inr ⟨by rfl, rfl⟩
            try simp only [Act.put, List.setIfInBounds_toArray, List.set_cons_zero, List.set_cons_succ]
            refine' wpAnyH_take (i := 16) (v := undef) ?hi16 (by kernel_rfl) (by kernel_rfl) (by kernel_rfl) ?hQ16 ?hy16 (by assumption) ?_
            case hi16 => (simp only [List.getElem?_toArray, List.getElem?_cons_succ, List.getElem?_cons_zero]; rfl)
            case hQ16 => exact fun _ _ _ h => h
            case hy16 => exact Or.inr ⟨by rfl, rfl⟩
            try simp only [Act.put, List.setIfInBounds_toArray, List.set_cons_zero, List.set_cons_succ]
            refine' wpAnyH_take (i := 17) (v := undef) ?hi17 (by kernel_rfl) (by kernel_rfl) (by kernel_rfl) ?hQ17 ?hy17 (by assumption) ?_
            case hi17 => (simp only [List.getElem?_toArray, List.getElem?_cons_succ, List.getElem?_cons_zero]; rfl)
            case hQ17 => exact fun _ _ _ h => h
            case hy17 => exact Or.inr ⟨by rfl, rfl⟩
            try simp only [Act.put, List.setIfInBounds_toArray, List.set_cons_zero, List.set_cons_succ]
            refine' wpAnyH_take (i := 18) (v := _) ?hi18 (by kernel_rfl) (by kernel_rfl) (by kernel_rfl) ?hQ18 ?hy18 (by assumption) ?_
            case hi18 => (simp only [List.getElem?_toArray, List.getElem?_cons_succ, List.getElem?_cons_zero]; rfl)
            case hy18 => refine Or.inl ⟨by rfl, ?_⟩; intro w hSw; (try dsimp only at hSw); go_simp <;> with_reducible rfl
            case hQ18 => exact fun _ _ _ h => h
            try simp only [Act.put, List.setIfInBounds_toArray, List.set_cons_zero, List.set_cons_succ]
            refine' wpAnyH_take (i := 19) (v := _) ?hi19 (by kernel_rfl) (by kernel_rfl) (by kernel_rfl) ?hQ19 ?hy19 (by assumption) ?_
            case hi19 => (simp only [List.getElem?_toArray, List.getElem?_cons_succ, List.getElem?_cons_zero]; rfl)
            case hy19 => refine Or.inl ⟨by rfl, ?_⟩; intro w hSw; (try dsimp only at hSw); go_simp <;> with_reducible rfl
            case hQ19 => exact fun _ _ _ h => h
            try simp only [Act.put, List.setIfInBounds_toArray, List.set_cons_zero, List.set_cons_succ]
            refine wpAnyH_done (by kernel_rfl) ?_ _
            go_wp2
            go_meet
            exact ⟨by rw [← HR0.out, h7]; rfl, hxk10⟩
          exact AllReadyH.nil
        refine wp_region_held_drew (S := fun V => V.cell? ⟨w.heap.size, 0, none⟩ = some (.int .i64 p) ∧ V.cell? ⟨w.heap.size, 1, none⟩ = some (.int .i64 q) ∧ V.cell? ⟨w.heap.size, 2, none⟩ = some (.int .i64 g) ∧ V.cell? ⟨gd, 0, none⟩ = some (.slice (some ac) n1 c1) ∧ V.cell? ⟨gd, 1, none⟩ = some (.slice A2 m1 d1) ∧ V.cell? ac = some (.int .i64 x0) ∧ V.cell? (bd.add j) = some (.int .i64 ij)) (by kernel_rfl) ?_ (fun hHeld => ?_)
        · exact hS _ (by repeat (first | with_reducible assumption | with_reducible exact Ext.refl _ | with_reducible apply Ext.alloc | with_reducible apply Ext.drew | with_reducible apply Ext.drewN))
        refine' wpAnyH_take (i := 0) (v := _) ?hi0 (by kernel_rfl) (by kernel_rfl) (by kernel_rfl) ?hQ0 ?hy0 (by assumption) ?_
        case hi0 => (simp only [List.getElem?_toArray, List.getElem?_cons_zero]; rfl)
        case hy0 => refine Or.inl ⟨by rfl, ?_⟩; intro w hSw; (try dsimp only at hSw); go_simp <;> with_reducible rfl
        case hQ0 => exact fun _ _ _ h => h
        try simp only [Act.put, List.setIfInBounds_toArray, List.set_cons_zero, List.set_cons_succ]
        refine' wpAnyH_take (i := 1) (v := _) ?hi1 (by kernel_rfl) (by kernel_rfl) (by kernel_rfl) ?hQ1 ?hy1 (by assumption) ?_
        case hi1 => (simp only [List.getElem?_toArray, List.getElem?_cons_succ, List.getElem?_cons_zero]; rfl)
        case hy1 => refine Or.inl ⟨by rfl, ?_⟩; intro w hSw; (try dsimp only at hSw); go_simp <;> with_reducible rfl
        case hQ1 => exact fun _ _ _ h => h
        try simp only [Act.put, List.setIfInBounds_toArray, List.set_cons_zero, List.set_cons_succ]
        refine' wpAnyH_take (i := 2) (v := _) ?hi2 (by kernel_rfl) (by kernel_rfl) (by kernel_rfl) ?hQ2 ?hy2 (by assumption) ?_
        case hi2 => (simp only [List.getElem?_toArray, List.getElem?_cons_succ, List.getElem?_cons_zero]; rfl)
        case hy2 => refine Or.inl ⟨by rfl, ?_⟩; intro w hSw; (try dsimp only at hSw); go_simp <;> with_reducible rfl
        case hQ2 => exact fun _ _ _ h => h
        try simp only [Act.put, List.setIfInBounds_toArray, List.set_cons_zero, List.set_cons_succ]
        refine' wpAnyH_take (i := 3) (v := _) ?hi3 (by kernel_rfl) (by kernel_rfl) (by kernel_rfl) ?hQ3 ?hy3 (by assumption) ?_
        case hi3 => (simp only [List.getElem?_toArray, List.getElem?_cons_succ, List.getElem?_cons_zero]; rfl)
        case hy3 => refine Or.inl ⟨by rfl, ?_⟩; intro w hSw; (try dsimp only at hSw); go_simp <;> with_reducible rfl
        case hQ3 => exact fun _ _ _ h => h
        try simp only [Act.put, List.setIfInBounds_toArray, List.set_cons_zero, List.set_cons_succ]
        refine' wpAnyH_take (i := 4) (v := _) ?hi4 (by kernel_rfl) (by kernel_rfl) (by kernel_rfl) ?hQ4 ?hy4 (by assumption) ?_
        case hi4 => (simp only [List.getElem?_toArray, List.getElem?_cons_succ, List.getElem?_cons_zero]; rfl)
        case hy4 => refine Or.inl ⟨by rfl, ?_⟩; intro w hSw; (try dsimp only at hSw); go_simp <;> with_reducible rfl
        case hQ4 => exact fun _ _ _ h => h
        try simp only [Act.put, List.setIfInBounds_toArray, List.set_cons_zero, List.set_cons_succ]
        refine' wpAnyH_take (i := 5) (v := _) ?hi5 (by kernel_rfl) (by kernel_rfl) (by kernel_rfl) ?hQ5 ?hy5 (by assumption) ?_
        case hi5 => (simp only [List.getElem?_toArray, List.getElem?_cons_succ, List.getElem?_cons_zero]; rfl)
        case hy5 => refine Or.inl ⟨by rfl, ?_⟩; intro w hSw; (try dsimp only at hSw); go_simp <;> with_reducible rfl
        case hQ5 => exact fun _ _ _ h => h
        try simp only [Act.put, List.setIfInBounds_toArray, List.set_cons_zero, List.set_cons_succ]
        refine' wpAnyH_take (i := 6) (v := _) ?hi6 (by kernel_rfl) (by kernel_rfl) (by kernel_rfl) ?hQ6 ?hy6 (by assumption) ?_
        case hi6 => (simp only [List.getElem?_toArray, List.getElem?_cons_succ, List.getElem?_cons_zero]; rfl)
        case hy6 => refine Or.inl ⟨by rfl, ?_⟩; intro w hSw; (try dsimp only at hSw); go_simp <;> with_reducible rfl
        case hQ6 => exact fun _ _ _ h => h
        try simp only [Act.put, List.setIfInBounds_toArray, List.set_cons_zero, List.set_cons_succ]
        refine' wpAnyH_take (i := 7) (v := _) ?hi7 (by kernel_rfl) (by kernel_rfl) (by kernel_rfl) ?hQ7 ?hy7 (by assumption) ?_
        case hi7 => (simp only [List.getElem?_toArray, List.getElem?_cons_succ, List.getElem?_cons_zero]; rfl)
        case hy7 => refine Or.inl ⟨by rfl, ?_⟩; intro w hSw; (try dsimp only at hSw); go_simp <;> with_reducible rfl
        case hQ7 => exact fun _ _ _ h => h
        try simp only [Act.put, List.setIfInBounds_toArray, List.set_cons_zero, List.set_cons_succ]
        refine' wpAnyH_take (i := 8) (v := _) ?hi8 (by kernel_rfl) (by kernel_rfl) (by kernel_rfl) ?hQ8 ?hy8 (by assumption) ?_
        case hi8 => (simp only [List.getElem?_toArray, List.getElem?_cons_succ, List.getElem?_cons_zero]; rfl)
        case hy8 => refine Or.inl ⟨by rfl, ?_⟩; intro w hSw; (try dsimp only at hSw); go_simp <;> with_reducible rfl
        case hQ8 => exact fun _ _ _ h => h
        try simp only [Act.put, List.setIfInBounds_toArray, List.set_cons_zero, List.set_cons_succ]
        refine' wpAnyH_take (i := 9) (v := _) ?hi9 (by kernel_rfl) (by kernel_rfl) (by kernel_rfl) ?hQ9 ?hy9 (by assumption) ?_
        case hi9 => (simp only [List.getElem?_toArray, List.getElem?_cons_succ, List.getElem?_cons_zero]; rfl)
        case hy9 => refine Or.inl ⟨by rfl, ?_⟩; intro w hSw; (try dsimp only at hSw); go_simp <;> with_reducible rfl
        case hQ9 => exact fun _ _ _ h => h
        try simp only [Act.put, List.setIfInBounds_toArray, List.set_cons_zero, List.set_cons_succ]
        refine wpAnyH_ready (rs := [10]) (by kernel_rfl) (by simp) ?_
        refine AllReadyH.cons rfl (fun KK hKK => ?_) ?_
        · go_simp
          go_at_call 45
          refine (commitAt_any p q g ij A n c cs _ HG.out (by omega) (by omega) (by omega) (RdI.ext ha.rd (Ext.trans hEb (by repeat (first | with_reducible assumption | with_reducible exact Ext.refl _ | with_reducible apply Ext.alloc | with_reducible apply Ext.drew | with_reducible apply Ext.drewN)))) HLC.out (by omega) HCS.out).mono ?_
          rintro ek wk10 ⟨hek, hbk10⟩
          rw [HCV.out] at hek; subst hek
          have hxk10 := Ext.trans (w := Wb) (by repeat (first | with_reducible assumption | with_reducible exact Ext.refl _ | with_reducible apply Ext.alloc | with_reducible apply Ext.drew | with_reducible apply Ext.drewN)) hbk10
          refine hKK.out _ _ ?_ (fun hHeld => ?_)
          · exact hS _ (by repeat (first | with_reducible assumption | with_reducible exact Ext.refl _ | with_reducible apply Ext.alloc | with_reducible apply Ext.drew | with_reducible apply Ext.drewN))
          clear hKK KK
          try simp only [Act.put, List.setIfInBounds_toArray, List.set_cons_zero, List.set_cons_succ]
          refine' wpAnyH_take (i := 11) (v := _) ?hi11 (by kernel_rfl) (by kernel_rfl) (by kernel_rfl) ?hQ11 ?hy11 (by assumption) ?_
          case hi11 => (simp only [List.getElem?_toArray, List.getElem?_cons_succ, List.getElem?_cons_zero]; rfl)
          case hy11 => refine Or.inl ⟨by rfl, ?_⟩; intro w hSw; (try dsimp only at hSw); go_simp <;> with_reducible rfl
          case hQ11 => exact fun _ _ _ h => h
          try simp only [Act.put, List.setIfInBounds_toArray, List.set_cons_zero, List.set_cons_succ]
          refine' wpAnyH_take (i := 12) (v := _) ?hi12 (by kernel_rfl) (by kernel_rfl) (by kernel_rfl) ?hQ12 ?hy12 (by assumption) ?_
          case hi12 => (simp only [List.getElem?_toArray, List.getElem?_cons_succ, List.getElem?_cons_zero]; rfl)
          case hy12 => refine Or.inl ⟨by rfl, ?_⟩; intro w hSw; (try dsimp only at hSw); go_simp <;> with_reducible rfl
          case hQ12 => exact fun _ _ _ h => h
          try simp only [Act.put, List.setIfInBounds_toArray, List.set_cons_zero, List.set_cons_succ]
          refine' wpAnyH_take (i := 13) (v := _) ?hi13 (by kernel_rfl) (by kernel_rfl) (by kernel_rfl) ?hQ13 ?hy13 (by assumption) ?_
          case hi13 => (simp only [List.getElem?_toArray, List.getElem?_cons_succ, List.getElem?_cons_zero]; rfl)
          case hy13 => refine Or.inl ⟨by rfl, ?_⟩; intro w hSw; (try dsimp only at hSw); go_simp <;> with_reducible rfl
          case hQ13 => exact fun _ _ _ h => h
          try simp only [Act.put, List.setIfInBounds_toArray, List.set_cons_zero, List.set_cons_succ]
          refine' wpAnyH_take (i := 14) (v := _) ?hi14 (by kernel_rfl) (by kernel_rfl) (by kernel_rfl) ?hQ14 ?hy14 (by assumption) ?_
          case hi14 => (simp only [List.getElem?_toArray, List.getElem?_cons_succ, List.getElem?_cons_zero]; rfl)
          case hy14 => refine Or.inl ⟨by rfl, ?_⟩; intro w hSw; (try dsimp only at hSw); go_simp <;> with_reducible rfl
          case hQ14 => exact fun _ _ _ h => h
          try simp only [Act.put, List.setIfInBounds_toArray, List.set_cons_zero, List.set_cons_succ]
          refine wpAnyH_ready (rs := [15]) (by kernel_rfl) (by simp) ?_
          refine AllReadyH.cons rfl (fun KK hKK => ?_) ?_
          · go_simp
            go_at_call 46
            refine (bad_any p q g _ n1 c1 dd.1 A2 m1 d1 dd.2 _ HGG.out (s1.ext (Ext.trans hxk10 (by repeat (first | with_reducible assumption | with_reducible exact Ext.refl _ | with_reducible apply Ext.alloc | with_reducible apply Ext.drew | with_reducible apply Ext.drewN)))) (s2.ext (Ext.trans hxk10 (by repeat (first | with_reducible assumption | with_reducible exact Ext.refl _ | with_reducible apply Ext.alloc | with_reducible apply Ext.drew | with_reducible apply Ext.drewN)))) hdf).mono ?_
            rintro ek wk15 ⟨K1, k9, kc, rfl, hO15, hbk15⟩
            rw [HBL.out] at hO15
            have hkl := hO15.len
            clear hO15
            have hxk15 := Ext.trans (w := Wb) (Ext.trans hxk10 (by repeat (first | with_reducible assumption | with_reducible exact Ext.refl _ | with_reducible apply Ext.alloc | with_reducible apply Ext.drew | with_reducible apply Ext.drewN))) hbk15
            refine hKK.out _ _ ?_ (fun hHeld => ?_)
            · exact hS _ (by repeat (first | with_reducible assumption | with_reducible exact Ext.refl _ | with_reducible apply Ext.alloc | with_reducible apply Ext.drew | with_reducible apply Ext.drewN))
            clear hKK KK
            try simp only [Act.put, List.setIfInBounds_toArray, List.set_cons_zero, List.set_cons_succ]
            refine' wpAnyH_take (i := 16) (v := _) ?hi16 (by kernel_rfl) (by kernel_rfl) (by kernel_rfl) ?hQ16 ?hy16 (by assumption) ?_
            case hi16 => (simp only [List.getElem?_toArray, List.getElem?_cons_succ, List.getElem?_cons_zero]; rfl)
            case hy16 => refine Or.inl ⟨by rfl, ?_⟩; intro w hSw; (try dsimp only at hSw); go_simp <;> with_reducible rfl
            case hQ16 => exact fun _ _ _ h => h
            try simp only [Act.put, List.setIfInBounds_toArray, List.set_cons_zero, List.set_cons_succ]
            refine' wpAnyH_take (i := 17) (v := _) ?hi17 (by kernel_rfl) (by kernel_rfl) (by kernel_rfl) ?hQ17 ?hy17 (by assumption) ?_
            case hi17 => (simp only [List.getElem?_toArray, List.getElem?_cons_succ, List.getElem?_cons_zero]; rfl)
            case hy17 => refine Or.inl ⟨by rfl, ?_⟩; intro w hSw; (try dsimp only at hSw); go_simp <;> with_reducible rfl
            case hQ17 => exact fun _ _ _ h => h
            try simp only [Act.put, List.setIfInBounds_toArray, List.set_cons_zero, List.set_cons_succ]
            refine' wpAnyH_take (i := 18) (v := _) ?hi18 (by kernel_rfl) (by kernel_rfl) (by kernel_rfl) ?hQ18 ?hy18 (by assumption) ?_
            case hi18 => (simp only [List.getElem?_toArray, List.getElem?_cons_succ, List.getElem?_cons_zero]; rfl)
            case hy18 => refine Or.inl ⟨by rfl, ?_⟩; intro w hSw; (try dsimp only at hSw); go_simp <;> with_reducible rfl
            case hQ18 => exact fun _ _ _ h => h
            try simp only [Act.put, List.setIfInBounds_toArray, List.set_cons_zero, List.set_cons_succ]
            refine' wpAnyH_take (i := 19) (v := _) ?hi19 (by kernel_rfl) (by kernel_rfl) (by kernel_rfl) ?hQ19 ?hy19 (by assumption) ?_
            case hi19 => (simp only [List.getElem?_toArray, List.getElem?_cons_succ, List.getElem?_cons_zero]; rfl)
            case hy19 => refine Or.inl ⟨by rfl, ?_⟩; intro w hSw; (try dsimp only at hSw); go_simp <;> with_reducible rfl
            case hQ19 => exact fun _ _ _ h => h
            try simp only [Act.put, List.setIfInBounds_toArray, List.set_cons_zero, List.set_cons_succ]
            refine wpAnyH_done (by kernel_rfl) ?_ _
            go_wp2
            go_meet
            exact ⟨by rw [← HR0.out, h7, hkl, beq_nat0, Bool.true_and], hxk15⟩
          exact AllReadyH.nil
        exact AllReadyH.nil
      case' rest =>
      obtain ⟨rfl, hbc⟩ := hcut
      have E4 := E3.trans hbc
      replace hU := hU.ext hbc
      replace hX := hX.ext hbc
      replace B3 := B3.ext hbc
      have hEc := hEb.trans hbc
      clear hS hx0 hi0 s1 s2 hbc hEb E3
      generalize wc = Wd at *
      go_upto_region 8 with (fail)
      go_cut [99] from 84 to 98 (fun b wx => b = .bool Zv ∧ Ext Wd wx)
      case first =>
        cases R0
        case false =>
          have hS : ∀ V, Ext Wd V → V.cell? ⟨gd, 0, none⟩ = some (.slice (some ac) n1 c1) ∧ V.cell? ⟨gd, 1, none⟩ = some (.slice A2 m1 d1) := fun V hV => by
            have a3 := (B3.ext hV).cells
            exact ⟨a3 0, a3 1⟩
          refine wp_region_held_drew (S := fun V => V.cell? ⟨gd, 0, none⟩ = some (.slice (some ac) n1 c1) ∧ V.cell? ⟨gd, 1, none⟩ = some (.slice A2 m1 d1)) (by kernel_rfl) ?_ (fun hHeld => ?_)
          · exact hS _ (by repeat (first | with_reducible assumption | with_reducible exact Ext.refl _ | with_reducible apply Ext.alloc | with_reducible apply Ext.drew | with_reducible apply Ext.drewN))
          refine' wpAnyH_take (i := 0) (v := _) ?hi0 (by kernel_rfl) (by kernel_rfl) (by kernel_rfl) ?hQ0 ?hy0 (by assumption) ?_
          case hi0 => (simp only [List.getElem?_toArray, List.getElem?_cons_zero]; rfl)
          case hy0 => refine Or.inl ⟨by rfl, ?_⟩; intro w hSw; (try dsimp only at hSw); go_simp <;> with_reducible rfl
          case hQ0 => exact fun _ _ _ h => h
          try simp only [Act.put, List.setIfInBounds_toArray, List.set_cons_zero, List.set_cons_succ]
          refine' wpAnyH_take (i := 1) (v := _) ?hi1 (by kernel_rfl) (by kernel_rfl) (by kernel_rfl) ?hQ1 ?hy1 (by assumption) ?_
          case hi1 => (simp only [List.getElem?_toArray, List.getElem?_cons_succ, List.getElem?_cons_zero]; rfl)
          case hy1 => refine Or.inl ⟨by rfl, ?_⟩; intro w hSw; (try dsimp only at hSw); go_simp <;> with_reducible rfl
          case hQ1 => exact fun _ _ _ h => h
          try simp only [Act.put, List.setIfInBounds_toArray, List.set_cons_zero, List.set_cons_succ]
          refine' wpAnyH_take (i := 2) (v := undef) ?hi2 (by kernel_rfl) (by kernel_rfl) (by kernel_rfl) ?hQ2 ?hy2 (by assumption) ?_
          case hi2 => (simp only [List.getElem?_toArray, List.getElem?_cons_succ, List.getElem?_cons_zero]; rfl)
          case hQ2 => exact fun _ _ _ h => h
          case hy2 => exact Or.inr ⟨by rfl, rfl⟩
          try simp only [Act.put, List.setIfInBounds_toArray, List.set_cons_zero, List.set_cons_succ]
          refine' wpAnyH_take (i := 3) (v := undef) ?hi3 (by kernel_rfl) (by kernel_rfl) (by kernel_rfl) ?hQ3 ?hy3 (by assumption) ?_
          case hi3 => (simp only [List.getElem?_toArray, List.getElem?_cons_succ, List.getElem?_cons_zero]; rfl)
          case hQ3 => exact fun _ _ _ h => h
          case hy3 => exact Or.inr ⟨by rfl, rfl⟩
          try simp only [Act.put, List.setIfInBounds_toArray, List.set_cons_zero, List.set_cons_succ]
          refine' wpAnyH_take (i := 4) (v := undef) ?hi4 (by kernel_rfl) (by kernel_rfl) (by kernel_rfl) ?hQ4 ?hy4 (by assumption) ?_
          case hi4 => (simp only [List.getElem?_toArray, List.getElem?_cons_succ, List.getElem?_cons_zero]; rfl)
          case hQ4 => exact fun _ _ _ h => h
          case hy4 => exact Or.inr ⟨by rfl, rfl⟩
          try simp only [Act.put, List.setIfInBounds_toArray, List.set_cons_zero, List.set_cons_succ]
          refine' wpAnyH_take (i := 5) (v := undef) ?hi5 (by kernel_rfl) (by kernel_rfl) (by kernel_rfl) ?hQ5 ?hy5 (by assumption) ?_
          case hi5 => (simp only [List.getElem?_toArray, List.getElem?_cons_succ, List.getElem?_cons_zero]; rfl)
          case hQ5 => exact fun _ _ _ h => h
          case hy5 => exact Or.inr ⟨by rfl, rfl⟩
          try simp only [Act.put, List.setIfInBounds_toArray, List.set_cons_zero, List.set_cons_succ]
          refine' wpAnyH_take (i := 6) (v := undef) ?hi6 (by kernel_rfl) (by kernel_rfl) (by kernel_rfl) ?hQ6 ?hy6 (by assumption) ?_
          case hi6 => (simp only [List.getElem?_toArray, List.getElem?_cons_succ, List.getElem?_cons_zero]; rfl)
          case hQ6 => exact fun _ _ _ h => h
          case hy6 => exact Or.inr ⟨by rfl, rfl⟩
          try simp only [Act.put, List.setIfInBounds_toArray, List.set_cons_zero, List.set_cons_succ]
          refine' wpAnyH_take (i := 7) (v := undef) ?hi7 (by kernel_rfl) (by kernel_rfl) (by kernel_rfl) ?hQ7 ?hy7 (by assumption) ?_
          case hi7 => (simp only [List.getElem?_toArray, List.getElem?_cons_succ, List.getElem?_cons_zero]; rfl)
          case hQ7 => exact fun _ _ _ h => h
          case hy7 => exact Or.inr ⟨by rfl, rfl⟩
          try simp only [Act.put, List.setIfInBounds_toArray, List.set_cons_zero, List.set_cons_succ]
          refine' wpAnyH_take (i := 8) (v := undef) ?hi8 (by kernel_rfl) (by kernel_rfl) (by kernel_rfl) ?hQ8 ?hy8 (by assumption) ?_
          case hi8 => (simp only [List.getElem?_toArray, List.getElem?_cons_succ, List.getElem?_cons_zero]; rfl)
          case hQ8 => exact fun _ _ _ h => h
          case hy8 => exact Or.inr ⟨by rfl, rfl⟩
          try simp only [Act.put, List.setIfInBounds_toArray, List.set_cons_zero, List.set_cons_succ]
          refine' wpAnyH_take (i := 9) (v := undef) ?hi9 (by kernel_rfl) (by kernel_rfl) (by kernel_rfl) ?hQ9 ?hy9 (by assumption) ?_
          case hi9 => (simp only [List.getElem?_toArray, List.getElem?_cons_succ, List.getElem?_cons_zero]; rfl)
          case hQ9 => exact fun _ _ _ h => h
          case hy9 => exact Or.inr ⟨by rfl, rfl⟩
          try simp only [Act.put, List.setIfInBounds_toArray, List.set_cons_zero, List.set_cons_succ]
          refine' wpAnyH_take (i := 10) (v := undef) ?hi10 (by kernel_rfl) (by kernel_rfl) (by kernel_rfl) ?hQ10 ?hy10 (by assumption) ?_
          case hi10 => (simp only [List.getElem?_toArray, List.getElem?_cons_succ, List.getElem?_cons_zero]; rfl)
          case hQ10 => exact fun _ _ _ h => h
          case hy10 => exact Or.inr ⟨by rfl, rfl⟩
          try simp only [Act.put, List.setIfInBounds_toArray, List.set_cons_zero, List.set_cons_succ]
          refine' wpAnyH_take (i := 11) (v := undef) ?hi11 (by kernel_rfl) (by kernel_rfl) (by kernel_rfl) ?hQ11 ?hy11 (by assumption) ?_
          case hi11 => (simp only [List.getElem?_toArray, List.getElem?_cons_succ, List.getElem?_cons_zero]; rfl)
          case hQ11 => exact fun _ _ _ h => h
          case hy11 => exact Or.inr ⟨by rfl, rfl⟩
          try simp only [Act.put, List.setIfInBounds_toArray, List.set_cons_zero, List.set_cons_succ]
          refine' wpAnyH_take (i := 12) (v := undef) ?hi12 (by kernel_rfl) (by kernel_rfl) (by kernel_rfl) ?hQ12 ?hy12 (by assumption) ?_
          case hi12 => (simp only [List.getElem?_toArray, List.getElem?_cons_succ, List.getElem?_cons_zero]; rfl)
          case hQ12 => exact fun _ _ _ h => h
          case hy12 => exact Or.inr ⟨by rfl, rfl⟩
          try simp only [Act.put, List.setIfInBounds_toArray, List.set_cons_zero, List.set_cons_succ]
          refine' wpAnyH_take (i := 13) (v := undef) ?hi13 (by kernel_rfl) (by kernel_rfl) (by kernel_rfl) ?hQ13 ?hy13 (by assumption) ?_
          case hi13 => (simp only [List.getElem?_toArray, List.getElem?_cons_succ, List.getElem?_cons_zero]; rfl)
          case hQ13 => exact fun _ _ _ h => h
          case hy13 => exact Or.inr ⟨by rfl, rfl⟩
          try simp only [Act.put, List.setIfInBounds_toArray, List.set_cons_zero, List.set_cons_succ]
          refine' wpAnyH_take (i := 14) (v := undef) ?hi14 (by kernel_rfl) (by kernel_rfl) (by kernel_rfl) ?hQ14 ?hy14 (by assumption) ?_
          case hi14 => (simp only [List.getElem?_toArray, List.getElem?_cons_succ, List.getElem?_cons_zero]; rfl)
          case hQ14 => exact fun _ _ _ h => h
          case hy14 => exact Or.inr ⟨by rfl, rfl⟩
          try simp only [Act.put, List.setIfInBounds_toArray, List.set_cons_zero, List.set_cons_succ]
          refine' wpAnyH_take (i := 15) (v := _) ?hi15 (by kernel_rfl) (by kernel_rfl) (by kernel_rfl) ?hQ15 ?hy15 (by assumption) ?_
          case hi15 => (simp only [List.getElem?_toArray, List.getElem?_cons_succ, List.getElem?_cons_zero]; rfl)
          case hy15 => refine Or.inl ⟨by rfl, ?_⟩; intro w hSw; (try dsimp only at hSw); go_simp <;> with_reducible rfl
          case hQ15 => exact fun _ _ _ h => h
          try simp only [Act.put, List.setIfInBounds_toArray, List.set_cons_zero, List.set_cons_succ]
          refine wpAnyH_done (by kernel_rfl) ?_ _
          go_wp2
          go_meet
          exact ⟨by rw [← HZ.out]; rfl, (by repeat (first | with_reducible assumption | with_reducible exact Ext.refl _ | with_reducible apply Ext.alloc | with_reducible apply Ext.drew | with_reducible apply Ext.drewN))⟩
        have HUL := Lib.hid hU.len
        cases L1 with
        | nil =>
          obtain rfl : u = 0 := by have := HUL.out; simpa [castL] using this.symm
          have hS : ∀ V, Ext Wd V → V.cell? ⟨gd, 0, none⟩ = some (.slice (some ac) n1 c1) ∧ V.cell? ⟨gd, 1, none⟩ = some (.slice A2 m1 d1) := fun V hV => by
            have a3 := (B3.ext hV).cells
            exact ⟨a3 0, a3 1⟩
          refine wp_region_held_drew (S := fun V => V.cell? ⟨gd, 0, none⟩ = some (.slice (some ac) n1 c1) ∧ V.cell? ⟨gd, 1, none⟩ = some (.slice A2 m1 d1)) (by kernel_rfl) ?_ (fun hHeld => ?_)
          · exact hS _ (by repeat (first | with_reducible assumption | with_reducible exact Ext.refl _ | with_reducible apply Ext.alloc | with_reducible apply Ext.drew | with_reducible apply Ext.drewN))
          refine' wpAnyH_take (i := 0) (v := _) ?hi0 (by kernel_rfl) (by kernel_rfl) (by kernel_rfl) ?hQ0 ?hy0 (by assumption) ?_
          case hi0 => (simp only [List.getElem?_toArray, List.getElem?_cons_zero]; rfl)
          case hy0 => refine Or.inl ⟨by rfl, ?_⟩; intro w hSw; (try dsimp only at hSw); go_simp <;> with_reducible rfl
          case hQ0 => exact fun _ _ _ h => h
          try simp only [Act.put, List.setIfInBounds_toArray, List.set_cons_zero, List.set_cons_succ]
          refine' wpAnyH_take (i := 1) (v := _) ?hi1 (by kernel_rfl) (by kernel_rfl) (by kernel_rfl) ?hQ1 ?hy1 (by assumption) ?_
          case hi1 => (simp only [List.getElem?_toArray, List.getElem?_cons_succ, List.getElem?_cons_zero]; rfl)
          case hy1 => refine Or.inl ⟨by rfl, ?_⟩; intro w hSw; (try dsimp only at hSw); go_simp <;> with_reducible rfl
          case hQ1 => exact fun _ _ _ h => h
          try simp only [Act.put, List.setIfInBounds_toArray, List.set_cons_zero, List.set_cons_succ]
          refine' wpAnyH_take (i := 2) (v := _) ?hi2 (by kernel_rfl) (by kernel_rfl) (by kernel_rfl) ?hQ2 ?hy2 (by assumption) ?_
          case hi2 => (simp only [List.getElem?_toArray, List.getElem?_cons_succ, List.getElem?_cons_zero]; rfl)
          case hy2 => refine Or.inl ⟨by rfl, ?_⟩; intro w hSw; (try dsimp only at hSw); go_simp <;> with_reducible rfl
          case hQ2 => exact fun _ _ _ h => h
          try simp only [Act.put, List.setIfInBounds_toArray, List.set_cons_zero, List.set_cons_succ]
          refine' wpAnyH_take (i := 3) (v := _) ?hi3 (by kernel_rfl) (by kernel_rfl) (by kernel_rfl) ?hQ3 ?hy3 (by assumption) ?_
          case hi3 => (simp only [List.getElem?_toArray, List.getElem?_cons_succ, List.getElem?_cons_zero]; rfl)
          case hy3 => refine Or.inl ⟨by rfl, ?_⟩; intro w hSw; (try dsimp only at hSw); go_simp <;> with_reducible rfl
          case hQ3 => exact fun _ _ _ h => h
          try simp only [Act.put, List.setIfInBounds_toArray, List.set_cons_zero, List.set_cons_succ]
          refine' wpAnyH_take (i := 4) (v := _) ?hi4 (by kernel_rfl) (by kernel_rfl) (by kernel_rfl) ?hQ4 ?hy4 (by assumption) ?_
          case hi4 => (simp only [List.getElem?_toArray, List.getElem?_cons_succ, List.getElem?_cons_zero]; rfl)
          case hy4 => refine Or.inl ⟨by rfl, ?_⟩; intro w hSw; (try dsimp only at hSw); go_simp <;> with_reducible rfl
          case hQ4 => exact fun _ _ _ h => h
          try simp only [Act.put, List.setIfInBounds_toArray, List.set_cons_zero, List.set_cons_succ]
          refine' wpAnyH_take (i := 5) (v := _) ?hi5 (by kernel_rfl) (by kernel_rfl) (by kernel_rfl) ?hQ5 ?hy5 (by assumption) ?_
          case hi5 => (simp only [List.getElem?_toArray, List.getElem?_cons_succ, List.getElem?_cons_zero]; rfl)
          case hy5 => refine Or.inl ⟨by rfl, ?_⟩; intro w hSw; (try dsimp only at hSw); go_simp <;> with_reducible rfl
          case hQ5 => exact fun _ _ _ h => h
          try simp only [Act.put, List.setIfInBounds_toArray, List.set_cons_zero, List.set_cons_succ]
          refine' wpAnyH_take (i := 6) (v := undef) ?hi6 (by kernel_rfl) (by kernel_rfl) (by kernel_rfl) ?hQ6 ?hy6 (by assumption) ?_
          case hi6 => (simp only [List.getElem?_toArray, List.getElem?_cons_succ, List.getElem?_cons_zero]; rfl)
          case hQ6 => exact fun _ _ _ h => h
          case hy6 => exact Or.inr ⟨by rfl, rfl⟩
          try simp only [Act.put, List.setIfInBounds_toArray, List.set_cons_zero, List.set_cons_succ]
          refine' wpAnyH_take (i := 7) (v := undef) ?hi7 (by kernel_rfl) (by kernel_rfl) (by kernel_rfl) ?hQ7 ?hy7 (by assumption) ?_
          case hi7 => (simp only [List.getElem?_toArray, List.getElem?_cons_succ, List.getElem?_cons_zero]; rfl)
          case hQ7 => exact fun _ _ _ h => h
          case hy7 => exact Or.inr ⟨by rfl, rfl⟩
          try simp only [Act.put, List.setIfInBounds_toArray, List.set_cons_zero, List.set_cons_succ]
          refine' wpAnyH_take (i := 8) (v := undef) ?hi8 (by kernel_rfl) (by kernel_rfl) (by kernel_rfl) ?hQ8 ?hy8 (by assumption) ?_
          case hi8 => (simp only [List.getElem?_toArray, List.getElem?_cons_succ, List.getElem?_cons_zero]; rfl)
          case hQ8 => exact fun _ _ _ h => h
          case hy8 => exact Or.inr ⟨by rfl, rfl⟩
          try simp only [Act.put, List.setIfInBounds_toArray, List.set_cons_zero, List.set_cons_succ]
          refine' wpAnyH_take (i := 9) (v := undef) ?hi9 (by kernel_rfl) (by kernel_rfl) (by kernel_rfl) ?hQ9 ?hy9 (by assumption) ?_
          case hi9 => (simp only [List.getElem?_toArray, List.getElem?_cons_succ, List.getElem?_cons_zero]; rfl)
          case hQ9 => exact fun _ _ _ h => h
          case hy9 => exact Or.inr ⟨by rfl, rfl⟩
          try simp only [Act.put, List.setIfInBounds_toArray, List.set_cons_zero, List.set_cons_succ]
          refine' wpAnyH_take (i := 10) (v := undef) ?hi10 (by kernel_rfl) (by kernel_rfl) (by kernel_rfl) ?hQ10 ?hy10 (by assumption) ?_
          case hi10 => (simp only [List.getElem?_toArray, List.getElem?_cons_succ, List.getElem?_cons_zero]; rfl)
          case hQ10 => exact fun _ _ _ h => h
          case hy10 => exact Or.inr ⟨by rfl, rfl⟩
          try simp only [Act.put, List.setIfInBounds_toArray, List.set_cons_zero, List.set_cons_succ]
          refine' wpAnyH_take (i := 11) (v := undef) ?hi11 (by kernel_rfl) (by kernel_rfl) (by kernel_rfl) ?hQ11 ?hy11 (by assumption) ?_
          case hi11 => (simp only [List.getElem?_toArray, List.getElem?_cons_succ, List.getElem?_cons_zero]; rfl)
          case hQ11 => exact fun _ _ _ h => h
          case hy11 => exact Or.inr ⟨by rfl, rfl⟩
          try simp only [Act.put, List.setIfInBounds_toArray, List.set_cons_zero, List.set_cons_succ]
          refine' wpAnyH_take (i := 12) (v := undef) ?hi12 (by kernel_rfl) (by kernel_rfl) (by kernel_rfl) ?hQ12 ?hy12 (by assumption) ?_
          case hi12 => (simp only [List.getElem?_toArray, List.getElem?_cons_succ, List.getElem?_cons_zero]; rfl)
          case hQ12 => exact fun _ _ _ h => h
          case hy12 => exact Or.inr ⟨by rfl, rfl⟩
          try simp only [Act.put, List.setIfInBounds_toArray, List.set_cons_zero, List.set_cons_succ]
          refine' wpAnyH_take (i := 13) (v := undef) ?hi13 (by kernel_rfl) (by kernel_rfl) (by kernel_rfl) ?hQ13 ?hy13 (by assumption) ?_
          case hi13 => (simp only [List.getElem?_toArray, List.getElem?_cons_succ, List.getElem?_cons_zero]; rfl)
          case hQ13 => exact fun _ _ _ h => h
          case hy13 => exact Or.inr ⟨by rfl, rfl⟩
          try simp only [Act.put, List.setIfInBounds_toArray, List.set_cons_zero, List.set_cons_succ]
          refine' wpAnyH_take (i := 14) (v := _) ?hi14 (by kernel_rfl) (by kernel_rfl) (by kernel_rfl) ?hQ14 ?hy14 (by assumption) ?_
          case hi14 => (simp only [List.getElem?_toArray, List.getElem?_cons_succ, List.getElem?_cons_zero]; rfl)
          case hy14 => refine Or.inl ⟨by rfl, ?_⟩; intro w hSw; (try dsimp only at hSw); go_simp <;> with_reducible rfl
          case hQ14 => exact fun _ _ _ h => h
          try simp only [Act.put, List.setIfInBounds_toArray, List.set_cons_zero, List.set_cons_succ]
          refine' wpAnyH_take (i := 15) (v := _) ?hi15 (by kernel_rfl) (by kernel_rfl) (by kernel_rfl) ?hQ15 ?hy15 (by assumption) ?_
          case hi15 => (simp only [List.getElem?_toArray, List.getElem?_cons_succ, List.getElem?_cons_zero]; rfl)
          case hy15 => refine Or.inl ⟨by rfl, ?_⟩; intro w hSw; (try dsimp only at hSw); go_simp <;> with_reducible rfl
          case hQ15 => exact fun _ _ _ h => h
          try simp only [Act.put, List.setIfInBounds_toArray, List.set_cons_zero, List.set_cons_succ]
          refine wpAnyH_done (by kernel_rfl) ?_ _
          go_wp2
          go_meet
          exact ⟨by rw [← HZ.out]; rfl, (by repeat (first | with_reducible assumption | with_reducible exact Ext.refl _ | with_reducible apply Ext.alloc | with_reducible apply Ext.drew | with_reducible apply Ext.drewN))⟩
        | cons k0 tl =>
          have hul := HUL.out
          simp only [castL, List.map_cons, List.length_cons, List.length_map] at hul
          have hu0 : ¬ ((u : Int) = 0) := by omega
          have hu1 : ((u : Int) == 0) = false := by simp; omega
          have hu2 : (0 : Int) < (u : Int) := by omega
          have hu3 : 0 < u := by omega
          obtain ⟨au, hUA, hk0⟩ := hU.rd.at_ (k := 0) (by simp [castL])
          subst hUA
          have hkr := HL1.out k0 (List.mem_cons_self ..)
          have hkd : k0 < ds.length := by have := HLD.out; omega
          obtain ⟨ad2, hDA, P1, p1, q1, P2, p2, q2, hf0, hg0, t1, t2⟩ := (hd.ext hEc).at_ hkd
          injection hDA with hDA
          subst hDA
          rw [show au.add 0 = au from rfl] at hk0
          have hk0' : Wd.cell? au = some (.int .i64 k0) := by simpa [castL] using hk0
          have HSV : Hid ((decide (n1 = p1) && decide (m1 = p2)) = Zv) := by
            show _ = _
            rw [← HZ.out]
            show _ = (true && (false || rsS ds j k0))
            rw [Bool.true_and, Bool.false_or, HSJ.out k0]
            simp only [getD_at _ hkd, t1.len, t2.len, hl1, hl2]
          have hk1 : (k0 : Int) < (r : Int) := by omega
          have hk2 : (0 : Int) ≤ (k0 : Int) := by omega
          clear hk0 t1 t2 hul
          have hS : ∀ V, Ext Wd V → V.cell? ⟨gd, 0, none⟩ = some (.slice (some ac) n1 c1) ∧ V.cell? ⟨gd, 1, none⟩ = some (.slice A2 m1 d1) ∧ V.cell? au = some (.int .i64 (k0 : Nat)) ∧ V.cell? (ad.add (k0 * 2)) = some (.slice P1 p1 q1) ∧ V.cell? ⟨(ad.add (k0 * 2)).block, (ad.add (k0 * 2)).off + 1, none⟩ = some (.slice P2 p2 q2) := fun V hV => by
            have a3 := (B3.ext hV).cells
            exact ⟨a3 0, a3 1, hV.cell hk0', hV.cell hf0, hV.cell hg0⟩
          refine wp_region_held_drew (S := fun V => V.cell? ⟨gd, 0, none⟩ = some (.slice (some ac) n1 c1) ∧ V.cell? ⟨gd, 1, none⟩ = some (.slice A2 m1 d1) ∧ V.cell? au = some (.int .i64 (k0 : Nat)) ∧ V.cell? (ad.add (k0 * 2)) = some (.slice P1 p1 q1) ∧ V.cell? ⟨(ad.add (k0 * 2)).block, (ad.add (k0 * 2)).off + 1, none⟩ = some (.slice P2 p2 q2)) (by kernel_rfl) ?_ (fun hHeld => ?_)
          · exact hS _ (by repeat (first | with_reducible assumption | with_reducible exact Ext.refl _ | with_reducible apply Ext.alloc | with_reducible apply Ext.drew | with_reducible apply Ext.drewN))
          refine' wpAnyH_take (i := 0) (v := _) ?hi0 (by kernel_rfl) (by kernel_rfl) (by kernel_rfl) ?hQ0 ?hy0 (by assumption) ?_
          case hi0 => (simp only [List.getElem?_toArray, List.getElem?_cons_zero]; rfl)
          case hy0 => refine Or.inl ⟨by rfl, ?_⟩; intro w hSw; (try dsimp only at hSw); go_simp <;> with_reducible rfl
          case hQ0 => exact fun _ _ _ h => h
          try simp only [Act.put, List.setIfInBounds_toArray, List.set_cons_zero, List.set_cons_succ]
          refine' wpAnyH_take (i := 1) (v := _) ?hi1 (by kernel_rfl) (by kernel_rfl) (by kernel_rfl) ?hQ1 ?hy1 (by assumption) ?_
          case hi1 => (simp only [List.getElem?_toArray, List.getElem?_cons_succ, List.getElem?_cons_zero]; rfl)
          case hy1 => refine Or.inl ⟨by rfl, ?_⟩; intro w hSw; (try dsimp only at hSw); go_simp <;> with_reducible rfl
          case hQ1 => exact fun _ _ _ h => h
          try simp only [Act.put, List.setIfInBounds_toArray, List.set_cons_zero, List.set_cons_succ]
          refine' wpAnyH_take (i := 2) (v := _) ?hi2 (by kernel_rfl) (by kernel_rfl) (by kernel_rfl) ?hQ2 ?hy2 (by assumption) ?_
          case hi2 => (simp only [List.getElem?_toArray, List.getElem?_cons_succ, List.getElem?_cons_zero]; rfl)
          case hy2 => refine Or.inl ⟨by rfl, ?_⟩; intro w hSw; (try dsimp only at hSw); go_simp <;> with_reducible rfl
          case hQ2 => exact fun _ _ _ h => h
          try simp only [Act.put, List.setIfInBounds_toArray, List.set_cons_zero, List.set_cons_succ]
          refine' wpAnyH_take (i := 3) (v := _) ?hi3 (by kernel_rfl) (by kernel_rfl) (by kernel_rfl) ?hQ3 ?hy3 (by assumption) ?_
          case hi3 => (simp only [List.getElem?_toArray, List.getElem?_cons_succ, List.getElem?_cons_zero]; rfl)
          case hy3 => refine Or.inl ⟨by rfl, ?_⟩; intro w hSw; (try dsimp only at hSw); go_simp <;> with_reducible rfl
          case hQ3 => exact fun _ _ _ h => h
          try simp only [Act.put, List.setIfInBounds_toArray, List.set_cons_zero, List.set_cons_succ]
          refine' wpAnyH_take (i := 4) (v := _) ?hi4 (by kernel_rfl) (by kernel_rfl) (by kernel_rfl) ?hQ4 ?hy4 (by assumption) ?_
          case hi4 => (simp only [List.getElem?_toArray, List.getElem?_cons_succ, List.getElem?_cons_zero]; rfl)
          case hy4 => refine Or.inl ⟨by rfl, ?_⟩; intro w hSw; (try dsimp only at hSw); go_simp <;> with_reducible rfl
          case hQ4 => exact fun _ _ _ h => h
          try simp only [Act.put, List.setIfInBounds_toArray, List.set_cons_zero, List.set_cons_succ]
          refine' wpAnyH_take (i := 5) (v := _) ?hi5 (by kernel_rfl) (by kernel_rfl) (by kernel_rfl) ?hQ5 ?hy5 (by assumption) ?_
          case hi5 => (simp only [List.getElem?_toArray, List.getElem?_cons_succ, List.getElem?_cons_zero]; rfl)
          case hy5 => refine Or.inl ⟨by rfl, ?_⟩; intro w hSw; (try dsimp only at hSw); go_simp <;> with_reducible rfl
          case hQ5 => exact fun _ _ _ h => h
          try simp only [Act.put, List.setIfInBounds_toArray, List.set_cons_zero, List.set_cons_succ]
          refine' wpAnyH_take (i := 6) (v := _) ?hi6 (by kernel_rfl) (by kernel_rfl) (by kernel_rfl) ?hQ6 ?hy6 (by assumption) ?_
          case hi6 => (simp only [List.getElem?_toArray, List.getElem?_cons_succ, List.getElem?_cons_zero]; rfl)
          case hy6 => refine Or.inl ⟨by rfl, ?_⟩; intro w hSw; (try dsimp only at hSw); go_simp <;> with_reducible rfl
          case hQ6 => exact fun _ _ _ h => h
          try simp only [Act.put, List.setIfInBounds_toArray, List.set_cons_zero, List.set_cons_succ]
          refine' wpAnyH_take (i := 7) (v := _) ?hi7 (by kernel_rfl) (by kernel_rfl) (by kernel_rfl) ?hQ7 ?hy7 (by assumption) ?_
          case hi7 => (simp only [List.getElem?_toArray, List.getElem?_cons_succ, List.getElem?_cons_zero]; rfl)
          case hy7 => refine Or.inl ⟨by rfl, ?_⟩; intro w hSw; (try dsimp only at hSw); go_simp <;> with_reducible rfl
          case hQ7 => exact fun _ _ _ h => h
          try simp only [Act.put, List.setIfInBounds_toArray, List.set_cons_zero, List.set_cons_succ]
          refine' wpAnyH_take (i := 8) (v := _) ?hi8 (by kernel_rfl) (by kernel_rfl) (by kernel_rfl) ?hQ8 ?hy8 (by assumption) ?_
          case hi8 => (simp only [List.getElem?_toArray, List.getElem?_cons_succ, List.getElem?_cons_zero]; rfl)
          case hy8 => refine Or.inl ⟨by rfl, ?_⟩; intro w hSw; (try dsimp only at hSw); go_simp <;> with_reducible rfl
          case hQ8 => exact fun _ _ _ h => h
          try simp only [Act.put, List.setIfInBounds_toArray, List.set_cons_zero, List.set_cons_succ]
          refine' wpAnyH_take (i := 9) (v := _) ?hi9 (by kernel_rfl) (by kernel_rfl) (by kernel_rfl) ?hQ9 ?hy9 (by assumption) ?_
          case hi9 => (simp only [List.getElem?_toArray, List.getElem?_cons_succ, List.getElem?_cons_zero]; rfl)
          case hy9 => refine Or.inl ⟨by rfl, ?_⟩; intro w hSw; (try dsimp only at hSw); go_simp <;> with_reducible rfl
          case hQ9 => exact fun _ _ _ h => h
          try simp only [Act.put, List.setIfInBounds_toArray, List.set_cons_zero, List.set_cons_succ]
          refine' wpAnyH_take (i := 10) (v := _) ?hi10 (by kernel_rfl) (by kernel_rfl) (by kernel_rfl) ?hQ10 ?hy10 (by assumption) ?_
          case hi10 => (simp only [List.getElem?_toArray, List.getElem?_cons_succ, List.getElem?_cons_zero]; rfl)
          case hy10 => refine Or.inl ⟨by rfl, ?_⟩; intro w hSw; (try dsimp only at hSw); go_simp <;> with_reducible rfl
          case hQ10 => exact fun _ _ _ h => h
          try simp only [Act.put, List.setIfInBounds_toArray, List.set_cons_zero, List.set_cons_succ]
          refine' wpAnyH_take (i := 11) (v := _) ?hi11 (by kernel_rfl) (by kernel_rfl) (by kernel_rfl) ?hQ11 ?hy11 (by assumption) ?_
          case hi11 => (simp only [List.getElem?_toArray, List.getElem?_cons_succ, List.getElem?_cons_zero]; rfl)
          case hy11 => refine Or.inl ⟨by rfl, ?_⟩; intro w hSw; (try dsimp only at hSw); go_simp <;> with_reducible rfl
          case hQ11 => exact fun _ _ _ h => h
          try simp only [Act.put, List.setIfInBounds_toArray, List.set_cons_zero, List.set_cons_succ]
          refine' wpAnyH_take (i := 12) (v := _) ?hi12 (by kernel_rfl) (by kernel_rfl) (by kernel_rfl) ?hQ12 ?hy12 (by assumption) ?_
          case hi12 => (simp only [List.getElem?_toArray, List.getElem?_cons_succ, List.getElem?_cons_zero]; rfl)
          case hy12 => refine Or.inl ⟨by rfl, ?_⟩; intro w hSw; (try dsimp only at hSw); go_simp <;> with_reducible rfl
          case hQ12 => exact fun _ _ _ h => h
          try simp only [Act.put, List.setIfInBounds_toArray, List.set_cons_zero, List.set_cons_succ]
          refine wpAnyH_ready (rs := [13]) (by kernel_rfl) (by simp) ?_
          refine AllReadyH.cons rfl (fun KK hKK => ?_) ?_
          · go_simp
            go_at_call 47
            refine (sameShape_any _ n1 c1 A2 m1 d1 P1 p1 q1 P2 p2 q2 _).mono ?_
            rintro ek wk13 ⟨hek, hbk13⟩
            rw [HSV.out] at hek; subst hek
            have hxk13 := Ext.trans (w := Wd) (by repeat (first | with_reducible assumption | with_reducible exact Ext.refl _ | with_reducible apply Ext.alloc | with_reducible apply Ext.drew | with_reducible apply Ext.drewN)) hbk13
            refine hKK.out _ _ ?_ (fun hHeld => ?_)
            · exact hS _ (by repeat (first | with_reducible assumption | with_reducible exact Ext.refl _ | with_reducible apply Ext.alloc | with_reducible apply Ext.drew | with_reducible apply Ext.drewN))
            clear hKK KK
            try simp only [Act.put, List.setIfInBounds_toArray, List.set_cons_zero, List.set_cons_succ]
            refine' wpAnyH_take (i := 14) (v := _) ?hi14 (by kernel_rfl) (by kernel_rfl) (by kernel_rfl) ?hQ14 ?hy14 (by assumption) ?_
            case hi14 => (simp only [List.getElem?_toArray, List.getElem?_cons_succ, List.getElem?_cons_zero]; rfl)
            case hy14 => refine Or.inl ⟨by rfl, ?_⟩; intro w hSw; (try dsimp only at hSw); go_simp <;> with_reducible rfl
            case hQ14 => exact fun _ _ _ h => h
            try simp only [Act.put, List.setIfInBounds_toArray, List.set_cons_zero, List.set_cons_succ]
            refine' wpAnyH_take (i := 15) (v := _) ?hi15 (by kernel_rfl) (by kernel_rfl) (by kernel_rfl) ?hQ15 ?hy15 (by assumption) ?_
            case hi15 => (simp only [List.getElem?_toArray, List.getElem?_cons_succ, List.getElem?_cons_zero]; rfl)
            case hy15 => refine Or.inl ⟨by rfl, ?_⟩; intro w hSw; (try dsimp only at hSw); go_simp <;> with_reducible rfl
            case hQ15 => exact fun _ _ _ h => h
            try simp only [Act.put, List.setIfInBounds_toArray, List.set_cons_zero, List.set_cons_succ]
            refine wpAnyH_done (by kernel_rfl) ?_ _
            go_wp2
            go_meet
            exact ⟨by simp, hxk13⟩
          exact AllReadyH.nil
      case' rest =>
      obtain ⟨rfl, hbc⟩ := hcut
      replace E4 := E4.trans hbc
      replace hU := hU.ext hbc
      replace hX := hX.ext hbc
      clear hbc B3 hEc
      generalize wc = We at *
      have hsz := E4.size
      have hnx9 := HNX.out
      cases Zv
      case false =>
        rw [if_neg (by decide)] at hnx9
        have HX1 : Hid ((rsF (rsR p q g cs ixs ds) (rsS ds) (j + 1)) = (L1, L2 ++ [j])) := hnx9
        clear hnx9
        go_wp2_with (at_builtin; refine wpList_app1F intSl rfl _ _ rfl hX rfl rfl rfl (by omega) hsz ?_; intro X2 d2 w2 hX2 hon hli)
        have hU2 := hU.only hon hap
        have hap2 : Apart (fpI U) (fpI X2) := (hap.symm.app hU.low hli).symm
        have E5 := E4.only hon hX.high
        rw [castL_app] at hX2
        clear hU hX hap E4 hon hli hsz
        go_wp2
        go_roundw
        case rel => exact ⟨j + 1, U, u, uc, X2, x + 1, d2, by omega, by go_num, rfl, rfl, by omega, by omega, by rw [HX1.out]; exact hU2, by rw [HX1.out]; exact hX2, hap2, E5⟩
        case measure => first | (simp [intOf]; done) | (simp [intOf]; omega)
      rw [if_pos rfl] at hnx9
      have HX1 : Hid ((rsF (rsR p q g cs ixs ds) (rsS ds) (j + 1)) = (L1 ++ [j], L2)) := hnx9
      clear hnx9
      go_wp2_with (at_builtin; refine wpList_app1F intSl rfl _ _ rfl hU rfl rfl rfl (by omega) hsz ?_; intro U2 d2 w2 hU2 hon hli)
      have hX2 := hX.only hon hap.symm
      have hap2 : Apart (fpI U2) (fpI X) := hap.app hX.low hli
      have E5 := E4.only hon hU.high
      rw [castL_app] at hU2
      clear hU hX hap E4 hon hli hsz
      go_wp2
      go_roundw
      case rel => exact ⟨j + 1, U2, u + 1, d2, X, x, xc, by omega, by go_num, rfl, rfl, by omega, by omega, by rw [HX1.out]; exact hU2, by rw [HX1.out]; exact hX2, hap2, E5⟩
      case measure => first | (simp [intOf]; done) | (simp [intOf]; omega)
    · obtain rfl : r = j := by omega
      have hrF : rsF (rsR p q g cs ixs ds) (rsS ds) r = rhF p q g cs ixs ds := by unfold rhF; rw [HLD.out]
      have hin := rsF_in (rsR p q g cs ixs ds) (rsS ds) r
      have hsh := rsF_shape (rsR p q g cs ixs ds) (rsS ds) r
      rw [hrF] at hU hX hin hsh
      rcases hF : rhF p q g cs ixs ds with ⟨F1, F2⟩
      rw [hF] at hU hX hin hsh
      have HF := Lib.hid hF
      have hul : F1.length = u := by have := hU.len; rw [castL_length] at this; exact this
      have HUL := Lib.hid hul
      have hF1r : ∀ k ∈ F1, k < r := fun k hk => (hin.1 k hk).1
      have HFR := Lib.hid hF1r
      have HSHP : Hid (∀ k ∈ F1, k = F1.headD 0 ∨ rsS ds k (F1.headD 0) = true) := hsh
      replace E := E.trans E2
      replace B0 := B0.ext E2
      replace B1 := B1.ext E2
      clear hlt hrF hF E2 hin hsh hF1r
      by_cases hun : u < n
      · have hv : rhB p q g cs ixs ds = false := by
          unfold rhB; rw [HG5.out, HF.out, Bool.true_and]; exact decide_eq_false (by show ¬ (cs.length ≤ F1.length); rw [HLC.out, hul]; omega)
        have hvv : rhV p q g cs ixs ds = ([], []) := by unfold rhV; rw [hv]; rfl
        have hvo : rhO p q g cs ixs ds = [] := by unfold rhO; rw [hv]; rfl
        have HV := Lib.hid hv
        have HVV := Lib.hid hvv
        have HVO := Lib.hid hvo
        clear hv hvv hvo
        have hun' : (u : Int) < (n : Int) := by omega
        clear hul
        have BF := B1
        have FZ := BF.frozen
        have CN := BF.cells
        have CZ := ((BF.set_ 0 (.slice none 0 0)).set_ 1 (.slice none 0 0)).cells
        go_wp2
        refine bodyPost_ret (v := .tuple #[.agg #[.slice none 0 0, .slice none 0 0], .slice none 0 0, .bool false]) (by simp [results, Try.results10, CZ, go_sem]) rfl ⟨none, 0, 0, none, 0, 0, none, 0, 0, by rw [HV.out], by rw [HVV.out]; exact OwnK.nil _ _, by rw [HVO.out]; exact OwnI.nil _ _ _, by omega, fun b hb => by simp [fpI] at hb, E.only1 (by first | exact Nat.le_refl _ | omega | (simp; done) | (simp; omega)) (only_two _ _ _ _ _ _)⟩
      have hv : rhB p q g cs ixs ds = true := by
        unfold rhB; rw [HG5.out, HF.out, Bool.true_and]; exact decide_eq_true (by show cs.length ≤ F1.length; rw [HLC.out, hul]; omega)
      have hvo : rhO p q g cs ixs ds = castL F2 := by unfold rhO; rw [hv, HF.out]; rfl
      have HV := Lib.hid hv
      have HVO := Lib.hid hvo
      clear hv hvo hul
      have hun' : ¬ ((u : Int) < (n : Int)) := by omega
      have hucap := hU.cap
      have hnc : (n : Int) ≤ (uc : Int) := by omega
      have hncn : n ≤ uc := by omega
      generalize wr = wa at *
      have hZ0 : OwnW 2 ((wa.alloc (.cells #[] 3)).alloc (.cells #[] 68)) wa.heap.size 68 (some ⟨wa.heap.size + 1, 0, none⟩) 0 0 [] := by
        have h9 := ownW_nil_lit (w := wa.alloc (.cells #[] 3)) (e := 68) (base := wa.heap.size) (by simp)
        simpa using h9
      have hY0 : OwnI ((wa.alloc (.cells #[] 3)).alloc (.cells #[] 68)) wa.heap.size 3 (some ⟨wa.heap.size, 0, none⟩) 0 0 [] := (ownI_lit (n := 0) (w := wa) [] rfl rfl (Nat.le_refl _) (Nat.zero_le _)).ext ((Ext.refl _).alloc _)
      have E00 : Ext wa ((wa.alloc (.cells #[] 3)).alloc (.cells #[] 68)) := ((Ext.refl wa).alloc _).alloc _
      go_wp2
      go_loopw [16, 122] (fun x i wr => ∃ (j : Nat) (Y : Option Addr) (yc : Nat), j ≤ n ∧ i = .int .i64 j ∧ x = .slice Y j yc ∧ OwnI wr wa.heap.size 3 Y j yc ((F1.take j).map fun k => ixs.getD k 0) ∧ OwnW 2 wr wa.heap.size 68 (some ⟨wa.heap.size + 1, 0, none⟩) 0 0 [] ∧ Ext wa wr) (fun _ i _ => n - (intOf i).toNat)
      case atStart => exact ⟨0, _, 0, Nat.zero_le _, rfl, rfl, hY0, hZ0, E00⟩
      case round =>
      obtain ⟨j, Y, yc, hj, rfl, rfl, hY, hZ, E2⟩ := hrel
      clear hY0 hZ0 E00
      by_cases hlt : j < n
      · have hjF : j < F1.length := by have := HUL.out; omega
        obtain ⟨au, hUA, hk0⟩ := (hU.ext E2).rd.at_ (k := j) (by rw [castL_length]; exact hjF)
        subst hUA
        have hk1 : wr.cell? (au.add j) = some (.int .i64 ((F1[j] : Nat) : Int)) := by rw [hk0, castL_get]
        have hkr := HFR.out _ (List.getElem_mem hjF)
        have hkm : F1[j] < ixs.length := by have := HLI.out; have := HRM.out; omega
        obtain ⟨bd, hBA, hi0⟩ := (hb.ext (E.trans E2)).rd.at_ hkm
        subst hBA
        have HST : Hid ((F1.take (j + 1)).map (fun k => ixs.getD k 0) = (F1.take j).map (fun k => ixs.getD k 0) ++ [ixs[F1[j]]]) := by show _ = _; rw [List.take_succ_eq_append_getElem hjF, List.map_append, List.map_cons, List.map_nil, getD_at _ hkm]
        generalize ixs[F1[j]] = y0 at *
        generalize F1[j] = k0 at *
        have hk2 : (k0 : Int) < (m : Int) := by have := HRM.out; omega
        have hk3 : (0 : Int) ≤ (k0 : Int) := by omega
        have hsz := E2.size
        clear hk0 hkm
        go_wp2_with (at_builtin; refine wpList_app1F intSl rfl _ _ rfl hY rfl rfl rfl (by omega) hsz ?_; intro Y2 d2 w2 hY2 hon hli)
        have hZ2 := hZ.only hon (apart_typesW hZ hY.w (by decide))
        have E5 := E2.only hon hY.high
        rw [← HST.out] at hY2
        clear hY hZ E2 hon hli hsz hk1 hi0
        go_wp2
        go_roundw
        case rel => exact ⟨j + 1, Y2, d2, by omega, by go_num, rfl, hY2, hZ2, E5⟩
        case measure => first | (simp [intOf]; done) | (simp [intOf]; omega)
      · obtain rfl : n = j := by omega
        obtain ⟨xs, hxs⟩ : ∃ xs, (F1.take n).map (fun k => ixs.getD k 0) = xs := ⟨_, rfl⟩
        rw [hxs] at hY
        have hxr : ∀ y ∈ xs, 0 ≤ y ∧ y ≤ q - 1 := fun y hy => by
          rw [← hxs] at hy
          obtain ⟨k, hk, rfl⟩ := List.mem_map.1 hy
          have hkr := HFR.out k (List.mem_of_mem_take hk)
          have hkm : k < ixs.length := by have := HLI.out; have := HRM.out; omega
          have h9 := HIX.out _ (List.getElem_mem hkm)
          rw [getD_at _ hkm]
          omega
        have HXS : Hid (rhX p q g cs ixs ds = xs) := by show _ = _; unfold rhX; rw [HF.out, HLC.out]; exact hxs
        clear hxs hlt
        have CC0 := (B0.ext E2).cells
        go_wp2_with fail
        refine (lagrange_any q 0 Y n yc xs _ hY.rd hY.len (by omega) (by omega) (by omega) hxr (by omega)).mono ?_
        rintro en w5 ⟨LA, lc, rfl, hL, hb5⟩
        have E5 := E2.trans hb5
        have hlb := E2.size
        replace hL := hL.more hlb
        replace hZ := hZ.ext hb5
        clear CC0 hb5 hlb hY hxr
        have hlb2 := lagL_bd hq2 xs 0 n
        generalize hlam : lagL q xs 0 n = lam at *
        have HLAM := Lib.hid hlam
        have HLB := Lib.hid hlb2
        clear hlam hlb2
        go_wp2
        go_loopw [17, 139] (fun z i wr => ∃ (j : Nat) (Z : Option Addr) (zc : Nat) (rs : List (Option Addr × Nat × Nat)), j ≤ n ∧ i = .int .i64 j ∧ z = .slice Z j zc ∧ OwnW 2 wr wa.heap.size 68 Z j zc (rs.map rowV) ∧ OwnL wr wa.heap.size rs (flD ((List.range j).map fun t => scD p q (ds.getD (F1.getD t 0) ([], [])) (lam.getD t 0))) ∧ OwnI wr wa.heap.size 3 LA n lc lam ∧ Ext wa wr) (fun _ i _ => n - (intOf i).toNat)
        case atStart => exact ⟨0, _, 0, [], Nat.zero_le _, rfl, rfl, hZ, OwnL.nil _ _, hL, E5⟩
        case round =>
        clear hZ hL E5 E2
        obtain ⟨j, Z, zc, rs, hj, rfl, rfl, hZ, hRS, hL, E6⟩ := hrel
        by_cases hlt : j < n
        · have hjF : j < F1.length := by have := HUL.out; omega
          have hjL : j < lam.length := by rw [hL.len]; exact hlt
          obtain ⟨au, hUA, hk0⟩ := (hU.ext E6).rd.at_ (k := j) (by rw [castL_length]; exact hjF)
          subst hUA
          have hk1 : wr.cell? (au.add j) = some (.int .i64 ((F1[j] : Nat) : Int)) := by rw [hk0, castL_get]
          have hkr := HFR.out _ (List.getElem_mem hjF)
          have hkd : F1[j] < ds.length := by have := HLD.out; omega
          obtain ⟨ad, hDA, A1, n1, c1, A2, m1, d1, hc0, hdd0, s1, s2⟩ := (hd.ext (E.trans E6)).at_ hkd
          subst hDA
          obtain ⟨al, hLA, hl0⟩ := hL.rd.at_ hjL
          subst hLA
          have hdf := dlF HGG.out (HDV.out _ (List.getElem_mem hkd))
          have hle := HLB.out _ (List.getElem_mem hjL)
          have HSC : Hid (scD p q (ds.getD (F1.getD j 0) ([], [])) (lam.getD j 0) = scD p q ds[F1[j]] lam[j]) := by show _ = _; rw [getD_at _ hjF, getD_at _ hkd, getD_at _ hjL]
          have hl1 := s1.len
          have hl2 := s2.len
          generalize ds[F1[j]] = dd at *
          generalize lam[j] = e0 at *
          generalize F1[j] = k0 at *
          have hkr1 : (k0 : Int) < (r : Int) := by omega
          have hkr2 : (0 : Int) ≤ (k0 : Int) := by omega
          have hjn : (j : Int) < (n : Int) := by omega
          have hju : (j : Int) < (u : Int) := by have := HUL.out; omega
          clear hk0 hkd hjF hjL
          go_wp2
          generalize wr = wb at *
          have hx0 := ((Ext.refl wb).alloc (.cells #[.slice A1 n1 c1, .slice A2 m1 d1] 68)).alloc (.cells #[.slice none 0 0, .slice none 0 0] 68)
          have BD := (Blk.new wb 68 #[.slice A1 n1 c1, .slice A2 m1 d1]).alloc (.cells #[.slice none 0 0, .slice none 0 0] 68)
          have BO := Blk.new (wb.alloc (.cells #[.slice A1 n1 c1, .slice A2 m1 d1] 68)) 68 #[.slice none 0 0, .slice none 0 0]
          simp only [World.size_alloc] at BO
          have hW0 := OwnI.nil ((wb.alloc (.cells #[.slice A1 n1 c1, .slice A2 m1 d1] 68)).alloc (.cells #[.slice none 0 0, .slice none 0 0] 68)) wb.heap.size 3
          have hgo : wb.heap.size ≤ wb.heap.size + 1 := by omega
          have EB := E.trans E6
          have hm9 : m1 ≤ 7 := by have := hdf.s7; omega
          have hn9 : n1 ≤ 7 := by have := hdf.c7; omega
          have HDC : Hid (∀ y ∈ dd.1, 0 ≤ y ∧ y ≤ 3000000000) := hdf.cr
          have HDS : Hid (∀ y ∈ dd.2, 0 ≤ y ∧ y ≤ q - 1) := hdf.sr
          clear hk1 hl0 hc0 hdd0 hdf
          go_loopw [155] (fun i wr => ∃ (t : Nat) (W : Option Addr) (wc : Nat), t ≤ n1 ∧ i = .int .i64 t ∧ Blk wr wb.heap.size 68 #[.slice A1 n1 c1, .slice A2 m1 d1] ∧ Blk wr (wb.heap.size + 1) 68 #[.slice W t wc, .slice none 0 0] ∧ OwnI wr wb.heap.size 3 W t wc ((dd.1.take t).map fun x => gpw p q x e0) ∧ Ext wb wr) (fun i _ => n1 - (intOf i).toNat)
          case atStart => exact ⟨0, none, 0, Nat.zero_le _, rfl, BD, BO, hW0, hx0⟩
          case round =>
          clear BD BO hW0 hx0
          obtain ⟨t, W, wc, ht, rfl, BD, BO, hW, E7⟩ := hrel
          by_cases hlt1 : t < n1
          · have htd : t < dd.1.length := by omega
            obtain ⟨a1, hA1, hx1⟩ := (s1.ext E7).rd.at_ htd
            subst hA1
            have hcr := HDC.out _ (List.getElem_mem htd)
            have HTK : Hid ((dd.1.take (t + 1)).map (fun x => gpw p q x e0) = (dd.1.take t).map (fun x => gpw p q x e0) ++ [gpw p q dd.1[t] e0]) := by show _ = _; rw [List.take_succ_eq_append_getElem htd, List.map_append, List.map_cons, List.map_nil]
            generalize dd.1[t] = y1 at *
            obtain ⟨v5, hv5⟩ : ∃ v5, gpw p q y1 e0 = v5 := ⟨_, rfl⟩
            rw [hv5] at HTK
            have HV5 := Lib.hid hv5
            clear hv5 htd
            have htn : (t : Int) < (n1 : Int) := by omega
            have BG := B0.ext E6
            go_upto_region 27 with (fail)
            generalize wr = Wd at *
            have hyd := Ext.refl Wd
            have hS : ∀ V, Ext wb V → Blk V (wb.heap.size + 1) 68 #[.slice W t wc, .slice none 0 0] → V.cell? ⟨w.heap.size, 0, none⟩ = some (.int .i64 p) ∧ V.cell? ⟨w.heap.size, 1, none⟩ = some (.int .i64 q) ∧ V.cell? ⟨w.heap.size, 2, none⟩ = some (.int .i64 g) ∧ V.cell? ⟨wb.heap.size + 1, 0, none⟩ = some (.slice W t wc) := fun V hV hB => by
              have a0 := (BG.ext hV).cells
              have a3 := hB.cells
              exact ⟨a0 0, a0 1, a0 2, a3 0⟩
            refine wp_region_heldL (S := fun V => V.cell? ⟨w.heap.size, 0, none⟩ = some (.int .i64 p) ∧ V.cell? ⟨w.heap.size, 1, none⟩ = some (.int .i64 q) ∧ V.cell? ⟨w.heap.size, 2, none⟩ = some (.int .i64 g) ∧ V.cell? ⟨wb.heap.size + 1, 0, none⟩ = some (.slice W t wc)) 9 (by kernel_rfl) ?_ (fun hHeld => ?_)
            · exact hS _ (by repeat (first | with_reducible assumption | with_reducible exact Ext.refl _ | with_reducible apply Ext.alloc | with_reducible apply Ext.drew | with_reducible apply Ext.drewN)) (by first | assumption | exact Blk.ext BO (by repeat (first | with_reducible assumption | with_reducible exact Ext.refl _ | with_reducible apply Ext.alloc | with_reducible apply Ext.drew | with_reducible apply Ext.drewN)))
            refine' wpAnyL_take (i := 0) (v := _) ?hi0 (by kernel_rfl) (by kernel_rfl) (by kernel_rfl) [9] (by kernel_rfl) ?hQ0 ?hy0 (by assumption) ?_
            case hi0 => (simp only [List.getElem?_toArray, List.getElem?_cons_zero]; rfl)
            case hy0 => refine Or.inl ⟨by rfl, ?_⟩; intro w hSw; (try dsimp only at hSw); go_simp <;> with_reducible rfl
            case hQ0 => exact fun _ _ _ h => h
            try simp only [Act.put, List.setIfInBounds_toArray, List.set_cons_zero, List.set_cons_succ]
            refine' wpAnyL_take (i := 1) (v := _) ?hi1 (by kernel_rfl) (by kernel_rfl) (by kernel_rfl) [9] (by kernel_rfl) ?hQ1 ?hy1 (by assumption) ?_
            case hi1 => (simp only [List.getElem?_toArray, List.getElem?_cons_succ, List.getElem?_cons_zero]; rfl)
            case hy1 => refine Or.inl ⟨by rfl, ?_⟩; intro w hSw; (try dsimp only at hSw); go_simp <;> with_reducible rfl
            case hQ1 => exact fun _ _ _ h => h
            try simp only [Act.put, List.setIfInBounds_toArray, List.set_cons_zero, List.set_cons_succ]
            refine' wpAnyL_take (i := 2) (v := _) ?hi2 (by kernel_rfl) (by kernel_rfl) (by kernel_rfl) [9] (by kernel_rfl) ?hQ2 ?hy2 (by assumption) ?_
            case hi2 => (simp only [List.getElem?_toArray, List.getElem?_cons_succ, List.getElem?_cons_zero]; rfl)
            case hy2 => refine Or.inl ⟨by rfl, ?_⟩; intro w hSw; (try dsimp only at hSw); go_simp <;> with_reducible rfl
            case hQ2 => exact fun _ _ _ h => h
            try simp only [Act.put, List.setIfInBounds_toArray, List.set_cons_zero, List.set_cons_succ]
            refine' wpAnyL_take (i := 3) (v := _) ?hi3 (by kernel_rfl) (by kernel_rfl) (by kernel_rfl) [9] (by kernel_rfl) ?hQ3 ?hy3 (by assumption) ?_
            case hi3 => (simp only [List.getElem?_toArray, List.getElem?_cons_succ, List.getElem?_cons_zero]; rfl)
            case hy3 => refine Or.inl ⟨by rfl, ?_⟩; intro w hSw; (try dsimp only at hSw); go_simp <;> with_reducible rfl
            case hQ3 => exact fun _ _ _ h => h
            try simp only [Act.put, List.setIfInBounds_toArray, List.set_cons_zero, List.set_cons_succ]
            refine' wpAnyL_take (i := 4) (v := _) ?hi4 (by kernel_rfl) (by kernel_rfl) (by kernel_rfl) [9] (by kernel_rfl) ?hQ4 ?hy4 (by assumption) ?_
            case hi4 => (simp only [List.getElem?_toArray, List.getElem?_cons_succ, List.getElem?_cons_zero]; rfl)
            case hy4 => refine Or.inl ⟨by rfl, ?_⟩; intro w hSw; (try dsimp only at hSw); go_simp <;> with_reducible rfl
            case hQ4 => exact fun _ _ _ h => h
            try simp only [Act.put, List.setIfInBounds_toArray, List.set_cons_zero, List.set_cons_succ]
            refine wpAnyL_ready (rs := [5]) (by kernel_rfl) (by simp) ?_
            refine AllReadyL.cons rfl (by kernel_rfl) (fun KK hKK => ?_) ?_
            · go_simp
              go_at_call 49
              refine (pow_any p q g y1 e0 _ HG.out (by omega) (by omega) (by omega) (by omega)).mono ?_
              rintro ek wk5 ⟨hek, hbk5⟩
              rw [HV5.out] at hek; subst hek
              have hxk5 := Ext.trans (w := wb) (by repeat (first | with_reducible assumption | with_reducible exact Ext.refl _ | with_reducible apply Ext.alloc | with_reducible apply Ext.drew | with_reducible apply Ext.drewN)) hbk5
              have hyk5 := Ext.trans (w := Wd) (by repeat (first | with_reducible assumption | with_reducible exact Ext.refl _ | with_reducible apply Ext.alloc | with_reducible apply Ext.drew | with_reducible apply Ext.drewN)) hbk5
              refine hKK.out _ _ ?_ (fun hHeld => ?_)
              · exact hS _ (by repeat (first | with_reducible assumption | with_reducible exact Ext.refl _ | with_reducible apply Ext.alloc | with_reducible apply Ext.drew | with_reducible apply Ext.drewN)) (by first | assumption | exact Blk.ext BO (by repeat (first | with_reducible assumption | with_reducible exact Ext.refl _ | with_reducible apply Ext.alloc | with_reducible apply Ext.drew | with_reducible apply Ext.drewN)))
              clear hKK KK
              try simp only [Act.put, List.setIfInBounds_toArray, List.set_cons_zero, List.set_cons_succ]
              refine wpAnyL_ready (rs := [6]) (by kernel_rfl) (by simp) ?_
              refine AllReadyL.cons rfl (by kernel_rfl) (fun KK hKK => ?_) ?_
              · go_simp
                refine hKK.out _ _ ?_ (fun hHeld => ?_)
                · exact hS _ (by repeat (first | with_reducible assumption | with_reducible exact Ext.refl _ | with_reducible apply Ext.alloc | with_reducible apply Ext.drew | with_reducible apply Ext.drewN)) (by first | assumption | exact Blk.ext BO (by repeat (first | with_reducible assumption | with_reducible exact Ext.refl _ | with_reducible apply Ext.alloc | with_reducible apply Ext.drew | with_reducible apply Ext.drewN)))
                clear hKK KK
                try simp only [Act.put, List.setIfInBounds_toArray, List.set_cons_zero, List.set_cons_succ]
                refine wpAnyL_ready (rs := [7]) (by kernel_rfl) (by simp) ?_
                refine AllReadyL.cons rfl (by kernel_rfl) (fun KK hKK => ?_) ?_
                · refine step_app1L intSl (by rfl) _ _ (by rfl) (hW.ext (by repeat (first | with_reducible assumption | with_reducible exact Ext.refl _ | with_reducible apply Ext.alloc | with_reducible apply Ext.drew | with_reducible apply Ext.drewN))) (by rfl) _ (by rfl) (cell_new (w := wk5) (by first | rfl | (simp; done)) (by repeat (first | with_reducible assumption | with_reducible exact Ext.refl _ | with_reducible apply Ext.alloc | with_reducible apply Ext.drew | with_reducible apply Ext.drewN))) (by omega) (Ext.size (w := wb) (by repeat (first | with_reducible assumption | with_reducible exact Ext.refl _ | with_reducible apply Ext.alloc | with_reducible apply Ext.drew | with_reducible apply Ext.drewN))) ?_
                  intro V3 d2 w3 hV3 hon2 hli2
                  have E7b := Ext.only (w := wb) (by repeat (first | with_reducible assumption | with_reducible exact Ext.refl _ | with_reducible apply Ext.alloc | with_reducible apply Ext.drew | with_reducible apply Ext.drewN)) hon2 (hW.high.mono (Nat.le_refl _))
                  have BO7 := Blk.only (Blk.ext BO (by repeat (first | with_reducible assumption | with_reducible exact Ext.refl _ | with_reducible apply Ext.alloc | with_reducible apply Ext.drew | with_reducible apply Ext.drewN))) hon2 (Blk.off_own BO hW.w (by decide))
                  have BD7 := Blk.only (Blk.ext BD (by repeat (first | with_reducible assumption | with_reducible exact Ext.refl _ | with_reducible apply Ext.alloc | with_reducible apply Ext.drew | with_reducible apply Ext.drewN))) hon2 (Blk.off_own BD hW.w (by decide))
                  refine hKK.out _ _ ?_ (fun hHeld => ?_)
                  · exact hS _ (by repeat (first | with_reducible assumption | with_reducible exact Ext.refl _ | with_reducible apply Ext.alloc | with_reducible apply Ext.drew | with_reducible apply Ext.drewN)) (by first | assumption | exact Blk.ext BO (by repeat (first | with_reducible assumption | with_reducible exact Ext.refl _ | with_reducible apply Ext.alloc | with_reducible apply Ext.drew | with_reducible apply Ext.drewN)))
                  clear hKK KK
                  try simp only [List.getElem_toArray, List.getElem_cons_succ, List.getElem_cons_zero]
                  try simp only [Act.put, List.setIfInBounds_toArray, List.set_cons_zero, List.set_cons_succ]
                  refine' wpAnyL_take (i := 8) (v := _) ?hi8 (by kernel_rfl) (by kernel_rfl) (by kernel_rfl) [9] (by kernel_rfl) ?hQ8 ?hy8 (by assumption) ?_
                  case hi8 => (simp only [List.getElem?_toArray, List.getElem?_cons_succ, List.getElem?_cons_zero]; rfl)
                  case hy8 => refine Or.inl ⟨by rfl, ?_⟩; intro w hSw; (try dsimp only at hSw); go_simp <;> with_reducible rfl
                  case hQ8 => exact fun _ _ _ h => h
                  try simp only [Act.put, List.setIfInBounds_toArray, List.set_cons_zero, List.set_cons_succ]
                  refine wpAnyL_ready (rs := [9]) (by kernel_rfl) (by simp) ?_
                  refine AllReadyL.last rfl (by kernel_rfl) (fun KK hKK => ?_) ?_
                  · have FN := BO7.frozen
                    have CN := BO7.cells
                    go_simp
                    refine hKK.out _ _ ?_
                    clear hKK KK
                    try simp only [Act.put, List.setIfInBounds_toArray, List.set_cons_zero, List.set_cons_succ]
                    refine wpAny_done (by kernel_rfl) ?_ _
                    go_wp2
                    go_roundw
                    case rel => exact ⟨t + 1, V3, d2, by omega, by go_num, BD7.far (by simp) _, BO7.set_ 0 _, by rw [HTK.out]; exact hV3.keepBlk BO7 (by decide) ((Only.refl _ _).setCell (by simp) _), E7b.setCell (by simp) _⟩
                    case measure => first | (simp [intOf]; done) | (simp [intOf]; omega)
                  exact AllReadyL.nil
                exact AllReadyL.nil
              exact AllReadyL.nil
            exact AllReadyL.nil
          · obtain rfl : n1 = t := by omega
            rw [List.take_of_length_le (by omega)] at hW
            have BD2 := BD.cells
            go_wp2
            clear BD2
            generalize wr = wx at *
            have hlw := hW.low
            have hxx := E7.size
            have hU0 := OwnI.nil wx wx.heap.size 3
            go_loopw [172] (fun i wr => ∃ (t : Nat) (K : Option Addr) (vc : Nat), t ≤ m1 ∧ i = .int .i64 t ∧ Blk wr (wb.heap.size + 1) 68 #[.slice W n1 wc, .slice K t vc] ∧ OwnI wr wx.heap.size 3 K t vc ((dd.2.take t).map fun x => x * e0 % q) ∧ OwnI wr wb.heap.size 3 W n1 wc (dd.1.map fun x => gpw p q x e0) ∧ wx.heap.size ≤ wr.heap.size ∧ Ext wb wr) (fun i _ => m1 - (intOf i).toNat)
            case atStart => exact ⟨0, none, 0, Nat.zero_le _, rfl, BO, hU0, hW, Nat.le_refl _, E7⟩
            case round =>
            clear BO hU0 hW
            obtain ⟨t, K, vc, ht2, rfl, BO, hV, hW, hwx, E8⟩ := hrel
            by_cases hlt2 : t < m1
            · have htd : t < dd.2.length := by omega
              obtain ⟨a1, hA1, hx1⟩ := (s2.ext E8).rd.at_ htd
              subst hA1
              have hcr := HDS.out _ (List.getElem_mem htd)
              have HTK : Hid ((dd.2.take (t + 1)).map (fun x => x * e0 % q) = (dd.2.take t).map (fun x => x * e0 % q) ++ [dd.2[t] * e0 % q]) := by show _ = _; rw [List.take_succ_eq_append_getElem htd, List.map_append, List.map_cons, List.map_nil]
              generalize dd.2[t] = y1 at *
              have hpr1 := Int.mul_nonneg hcr.1 hle.1
              have hpr2 : y1 * e0 ≤ 2000000000 * 2000000000 := Int.mul_le_mul (by omega) (by omega) hle.1 (by omega)
              have hwr : IntKind.i64.wrap (y1 * e0) = y1 * e0 := IntWalk.i64_in _ (by omega)
              obtain ⟨v5, hv5⟩ : ∃ v5, y1 * e0 % q = v5 := ⟨_, rfl⟩
              rw [hv5] at HTK
              have HV5 := Lib.hid hv5
              clear hv5 htd
              have htn : (t : Int) < (m1 : Int) := by omega
              have BG := B0.ext E6
              go_upto_region 32 with (fail)
              generalize wr = Wd at *
              have hyd := Ext.refl Wd
              have hapV : Apart (fpI K) (fpI W) := (Apart.of_low hlw hV.high).symm
              have hS : ∀ V, Ext wb V → Blk V (wb.heap.size + 1) 68 #[.slice W n1 wc, .slice K t vc] → V.cell? ⟨w.heap.size, 0, none⟩ = some (.int .i64 p) ∧ V.cell? ⟨w.heap.size, 1, none⟩ = some (.int .i64 q) ∧ V.cell? ⟨w.heap.size, 2, none⟩ = some (.int .i64 g) ∧ V.cell? ⟨wb.heap.size + 1, 1, none⟩ = some (.slice K t vc) := fun V hV hB => by
                have a0 := (BG.ext hV).cells
                have a3 := hB.cells
                exact ⟨a0 0, a0 1, a0 2, a3 1⟩
              refine wp_region_heldL (S := fun V => V.cell? ⟨w.heap.size, 0, none⟩ = some (.int .i64 p) ∧ V.cell? ⟨w.heap.size, 1, none⟩ = some (.int .i64 q) ∧ V.cell? ⟨w.heap.size, 2, none⟩ = some (.int .i64 g) ∧ V.cell? ⟨wb.heap.size + 1, 1, none⟩ = some (.slice K t vc)) 10 (by kernel_rfl) ?_ (fun hHeld => ?_)
              · exact hS _ (by repeat (first | with_reducible assumption | with_reducible exact Ext.refl _ | with_reducible apply Ext.alloc | with_reducible apply Ext.drew | with_reducible apply Ext.drewN)) (by first | assumption | exact Blk.ext BO (by repeat (first | with_reducible assumption | with_reducible exact Ext.refl _ | with_reducible apply Ext.alloc | with_reducible apply Ext.drew | with_reducible apply Ext.drewN)))
              refine' wpAnyL_take (i := 0) (v := _) ?hi0 (by kernel_rfl) (by kernel_rfl) (by kernel_rfl) [10] (by kernel_rfl) ?hQ0 ?hy0 (by assumption) ?_
              case hi0 => (simp only [List.getElem?_toArray, List.getElem?_cons_zero]; rfl)
              case hy0 => refine Or.inl ⟨by rfl, ?_⟩; intro w hSw; (try dsimp only at hSw); go_simp <;> with_reducible rfl
              case hQ0 => exact fun _ _ _ h => h
              try simp only [Act.put, List.setIfInBounds_toArray, List.set_cons_zero, List.set_cons_succ]
              refine' wpAnyL_take (i := 1) (v := _) ?hi1 (by kernel_rfl) (by kernel_rfl) (by kernel_rfl) [10] (by kernel_rfl) ?hQ1 ?hy1 (by assumption) ?_
              case hi1 => (simp only [List.getElem?_toArray, List.getElem?_cons_succ, List.getElem?_cons_zero]; rfl)
              case hy1 => refine Or.inl ⟨by rfl, ?_⟩; intro w hSw; (try dsimp only at hSw); go_simp <;> with_reducible rfl
              case hQ1 => exact fun _ _ _ h => h
              try simp only [Act.put, List.setIfInBounds_toArray, List.set_cons_zero, List.set_cons_succ]
              refine' wpAnyL_take (i := 2) (v := _) ?hi2 (by kernel_rfl) (by kernel_rfl) (by kernel_rfl) [10] (by kernel_rfl) ?hQ2 ?hy2 (by assumption) ?_
              case hi2 => (simp only [List.getElem?_toArray, List.getElem?_cons_succ, List.getElem?_cons_zero]; rfl)
              case hy2 => refine Or.inl ⟨by rfl, ?_⟩; intro w hSw; (try dsimp only at hSw); go_simp <;> with_reducible rfl
              case hQ2 => exact fun _ _ _ h => h
              try simp only [Act.put, List.setIfInBounds_toArray, List.set_cons_zero, List.set_cons_succ]
              refine' wpAnyL_take (i := 3) (v := _) ?hi3 (by kernel_rfl) (by kernel_rfl) (by kernel_rfl) [10] (by kernel_rfl) ?hQ3 ?hy3 (by assumption) ?_
              case hi3 => (simp only [List.getElem?_toArray, List.getElem?_cons_succ, List.getElem?_cons_zero]; rfl)
              case hy3 => refine Or.inl ⟨by rfl, ?_⟩; intro w hSw; (try dsimp only at hSw); go_simp <;> with_reducible rfl
              case hQ3 => exact fun _ _ _ h => h
              try simp only [Act.put, List.setIfInBounds_toArray, List.set_cons_zero, List.set_cons_succ]
              refine' wpAnyL_take (i := 4) (v := _) ?hi4 (by kernel_rfl) (by kernel_rfl) (by kernel_rfl) [10] (by kernel_rfl) ?hQ4 ?hy4 (by assumption) ?_
              case hi4 => (simp only [List.getElem?_toArray, List.getElem?_cons_succ, List.getElem?_cons_zero]; rfl)
              case hy4 => refine Or.inl ⟨by rfl, ?_⟩; intro w hSw; (try dsimp only at hSw); go_simp <;> with_reducible rfl
              case hQ4 => exact fun _ _ _ h => h
              try simp only [Act.put, List.setIfInBounds_toArray, List.set_cons_zero, List.set_cons_succ]
              refine' wpAnyL_take (i := 5) (v := _) ?hi5 (by kernel_rfl) (by kernel_rfl) (by kernel_rfl) [10] (by kernel_rfl) ?hQ5 ?hy5 (by assumption) ?_
              case hi5 => (simp only [List.getElem?_toArray, List.getElem?_cons_succ, List.getElem?_cons_zero]; rfl)
              case hy5 => refine Or.inl ⟨by rfl, ?_⟩; intro w hSw; (try dsimp only at hSw); go_simp <;> with_reducible rfl
              case hQ5 => exact fun _ _ _ h => h
              try simp only [Act.put, List.setIfInBounds_toArray, List.set_cons_zero, List.set_cons_succ]
              refine wpAnyL_ready (rs := [6]) (by kernel_rfl) (by simp) ?_
              refine AllReadyL.cons rfl (by kernel_rfl) (fun KK hKK => ?_) ?_
              · go_simp
                go_at_call 50
                refine (exp_any p q g (y1 * e0) _ HG.out (by omega) (by omega)).mono ?_
                rintro ek wk6 ⟨hek, hbk6⟩
                rw [HV5.out] at hek; subst hek
                have hxk6 := Ext.trans (w := wb) (by repeat (first | with_reducible assumption | with_reducible exact Ext.refl _ | with_reducible apply Ext.alloc | with_reducible apply Ext.drew | with_reducible apply Ext.drewN)) hbk6
                have hyk6 := Ext.trans (w := Wd) (by repeat (first | with_reducible assumption | with_reducible exact Ext.refl _ | with_reducible apply Ext.alloc | with_reducible apply Ext.drew | with_reducible apply Ext.drewN)) hbk6
                refine hKK.out _ _ ?_ (fun hHeld => ?_)
                · exact hS _ (by repeat (first | with_reducible assumption | with_reducible exact Ext.refl _ | with_reducible apply Ext.alloc | with_reducible apply Ext.drew | with_reducible apply Ext.drewN)) (by first | assumption | exact Blk.ext BO (by repeat (first | with_reducible assumption | with_reducible exact Ext.refl _ | with_reducible apply Ext.alloc | with_reducible apply Ext.drew | with_reducible apply Ext.drewN)))
                clear hKK KK
                try simp only [Act.put, List.setIfInBounds_toArray, List.set_cons_zero, List.set_cons_succ]
                refine wpAnyL_ready (rs := [7]) (by kernel_rfl) (by simp) ?_
                refine AllReadyL.cons rfl (by kernel_rfl) (fun KK hKK => ?_) ?_
                · go_simp
                  refine hKK.out _ _ ?_ (fun hHeld => ?_)
                  · exact hS _ (by repeat (first | with_reducible assumption | with_reducible exact Ext.refl _ | with_reducible apply Ext.alloc | with_reducible apply Ext.drew | with_reducible apply Ext.drewN)) (by first | assumption | exact Blk.ext BO (by repeat (first | with_reducible assumption | with_reducible exact Ext.refl _ | with_reducible apply Ext.alloc | with_reducible apply Ext.drew | with_reducible apply Ext.drewN)))
                  clear hKK KK
                  try simp only [Act.put, List.setIfInBounds_toArray, List.set_cons_zero, List.set_cons_succ]
                  refine wpAnyL_ready (rs := [8]) (by kernel_rfl) (by simp) ?_
                  refine AllReadyL.cons rfl (by kernel_rfl) (fun KK hKK => ?_) ?_
                  · refine step_app1L intSl (by rfl) _ _ (by rfl) (hV.ext (by repeat (first | with_reducible assumption | with_reducible exact Ext.refl _ | with_reducible apply Ext.alloc | with_reducible apply Ext.drew | with_reducible apply Ext.drewN))) (by rfl) _ (by rfl) (cell_new (w := wk6) (by first | rfl | (simp; done)) (by repeat (first | with_reducible assumption | with_reducible exact Ext.refl _ | with_reducible apply Ext.alloc | with_reducible apply Ext.drew | with_reducible apply Ext.drewN))) (by omega) (Nat.le_trans hwx (Ext.size (w := Wd) (by repeat (first | with_reducible assumption | with_reducible exact Ext.refl _ | with_reducible apply Ext.alloc | with_reducible apply Ext.drew | with_reducible apply Ext.drewN)))) ?_
                    intro V3 d2 w3 hV3 hon2 hli2
                    have E7b := Ext.only (w := wb) (by repeat (first | with_reducible assumption | with_reducible exact Ext.refl _ | with_reducible apply Ext.alloc | with_reducible apply Ext.drew | with_reducible apply Ext.drewN)) hon2 (hV.high.mono hxx)
                    have BO7 := Blk.only (Blk.ext BO (by repeat (first | with_reducible assumption | with_reducible exact Ext.refl _ | with_reducible apply Ext.alloc | with_reducible apply Ext.drew | with_reducible apply Ext.drewN))) hon2 (Blk.off_own BO hV.w (by decide))
                    have hW7 := OwnI.only (OwnI.ext hW (by repeat (first | with_reducible assumption | with_reducible exact Ext.refl _ | with_reducible apply Ext.alloc | with_reducible apply Ext.drew | with_reducible apply Ext.drewN))) hon2 hapV.symm
                    have hs9 : wx.heap.size ≤ w3.heap.size := Nat.le_trans (Nat.le_trans hwx (Ext.size (w := Wd) (by repeat (first | with_reducible assumption | with_reducible exact Ext.refl _ | with_reducible apply Ext.alloc | with_reducible apply Ext.drew | with_reducible apply Ext.drewN)))) hon2.size
                    refine hKK.out _ _ ?_ (fun hHeld => ?_)
                    · exact hS _ (by repeat (first | with_reducible assumption | with_reducible exact Ext.refl _ | with_reducible apply Ext.alloc | with_reducible apply Ext.drew | with_reducible apply Ext.drewN)) (by first | assumption | exact Blk.ext BO (by repeat (first | with_reducible assumption | with_reducible exact Ext.refl _ | with_reducible apply Ext.alloc | with_reducible apply Ext.drew | with_reducible apply Ext.drewN)))
                    clear hKK KK
                    try simp only [List.getElem_toArray, List.getElem_cons_succ, List.getElem_cons_zero]
                    try simp only [Act.put, List.setIfInBounds_toArray, List.set_cons_zero, List.set_cons_succ]
                    refine' wpAnyL_take (i := 9) (v := _) ?hi9 (by kernel_rfl) (by kernel_rfl) (by kernel_rfl) [10] (by kernel_rfl) ?hQ9 ?hy9 (by assumption) ?_
                    case hi9 => (simp only [List.getElem?_toArray, List.getElem?_cons_succ, List.getElem?_cons_zero]; rfl)
                    case hy9 => refine Or.inl ⟨by rfl, ?_⟩; intro w hSw; (try dsimp only at hSw); go_simp <;> with_reducible rfl
                    case hQ9 => exact fun _ _ _ h => h
                    try simp only [Act.put, List.setIfInBounds_toArray, List.set_cons_zero, List.set_cons_succ]
                    refine wpAnyL_ready (rs := [10]) (by kernel_rfl) (by simp) ?_
                    refine AllReadyL.last rfl (by kernel_rfl) (fun KK hKK => ?_) ?_
                    · have FN := BO7.frozen
                      have CN := BO7.cells
                      go_simp
                      refine hKK.out _ _ ?_
                      clear hKK KK
                      try simp only [Act.put, List.setIfInBounds_toArray, List.set_cons_zero, List.set_cons_succ]
                      refine wpAny_done (by kernel_rfl) ?_ _
                      go_wp2
                      go_roundw
                      case rel => exact ⟨t + 1, V3, d2, by omega, by go_num, BO7.set_ 1 _, by rw [HTK.out]; exact hV3.keepBlk BO7 (by decide) ((Only.refl _ _).setCell (by simp) _), hW7.keepBlk BO7 (by decide) ((Only.refl _ _).setCell (by simp) _), by simpa using hs9, E7b.setCell (by simp) _⟩
                      case measure => first | (simp [intOf]; done) | (simp [intOf]; omega)
                    exact AllReadyL.nil
                  exact AllReadyL.nil
                exact AllReadyL.nil
              exact AllReadyL.nil
            · obtain rfl : m1 = t := by omega
              rw [List.take_of_length_le (by omega)] at hV
              have BO2 := BO.cells
              have hZ8 := hZ.ext E8
              have hsz8 := (E6.trans E8).size
              go_wp2_with (at_builtin; refine wpList_app1D dealSl rfl _ _ rfl hZ8 rfl rfl rfl rfl (by omega) hsz8 ?_; intro Z2 z2 w6 hZ2 hon1)
              have E9 := (E6.trans E8).only hon1 hZ8.high
              have hL9 := (hL.ext E8).only hon1 (apart_typesW (hL.ext E8).w hZ8 (by decide))
              have hRn : OwnL wr wb.heap.size [(W, n1, wc), (K, m1, vc)] [dd.1.map fun x => gpw p q x e0, dd.2.map fun x => x * e0 % q] := OwnL.cons hW (OwnL.one (hV.more hxx)) (by simpa [rowsFp] using Apart.of_low hlw hV.high)
              have hRA := (hRS.ext E8).app (hRn.more E6.size) (Apart.of_low hRS.low hRn.high)
              have hR9 := hRA.only hon1 (hRA.off hZ8 (by decide))
              have HFL : Hid (flD ((List.range (j + 1)).map fun t => scD p q (ds.getD (F1.getD t 0) ([], [])) (lam.getD t 0)) = flD ((List.range j).map fun t => scD p q (ds.getD (F1.getD t 0) ([], [])) (lam.getD t 0)) ++ [dd.1.map fun x => gpw p q x e0, dd.2.map fun x => x * e0 % q]) := by
                show _ = _
                rw [List.range_succ, List.map_append, flD_append, List.map_cons, List.map_nil, HSC.out]
                rfl
              rw [← HFL.out] at hR9
              clear hRA hRn hRS hZ hZ8 hL hV hW BO BD
              go_wp2
              go_roundw
              case rel => exact ⟨j + 1, Z2, z2, rs ++ [(W, n1, wc), (K, m1, vc)], by omega, by go_num, rfl, by simpa [rowV] using hZ2, hR9, hL9, E9⟩
              case measure => first | (simp [intOf]; done) | (simp [intOf]; omega)
        · obtain rfl : n = j := by omega
          generalize wr = wz at *
          have EZ := E.trans E6
          obtain ⟨Ls, hLs⟩ : ∃ Ls, Ls = ((List.range n).map fun t => scD p q (ds.getD (F1.getD t 0) ([], [])) (lam.getD t 0)) := ⟨_, rfl⟩
          rw [← hLs] at hRS
          have hLl : Ls.length = n := by rw [hLs]; simp
          have hrd := RowsRd.rd hRS.rd hZ.rd
          have hnF : n ≤ F1.length := by have := HUL.out; omega
          have hsp : ∀ k ∈ F1, (ds.getD k ([], [])).1.length = (ds.getD (F1.headD 0) ([], [])).1.length ∧ (ds.getD k ([], [])).2.length = (ds.getD (F1.headD 0) ([], [])).2.length := fun k hk => by
            rcases HSHP.out k hk with h9 | h9
            · rw [h9]; exact ⟨rfl, rfl⟩
            · unfold rsS at h9
              rw [Bool.and_eq_true] at h9
              exact ⟨of_decide_eq_true h9.1, of_decide_eq_true h9.2⟩
          have hrgd : ∀ k ∈ F1, ∀ e : Int, RngD q (ds.getD (F1.headD 0) ([], [])).1.length (ds.getD (F1.headD 0) ([], [])).2.length (scD p q (ds.getD k ([], [])) e) := fun k hk e => ⟨by rw [← (hsp k hk).1]; simp [scD], by rw [← (hsp k hk).2]; simp [scD], fun y hy => by
            obtain ⟨x, _, rfl⟩ := List.mem_map.1 hy
            have := gpw_rg p q x e HG.out
            omega, fun y hy => by
            obtain ⟨x, _, rfl⟩ := List.mem_map.1 hy
            have h1 := Int.emod_nonneg (x * e) (show q ≠ 0 by omega)
            have h2 := Int.emod_lt_of_pos (x * e) (show 0 < q by omega)
            omega⟩
          have hsum := rh_sum (p := p) (q := q) (ds := ds) (by omega) (by omega) hnF hL.len hsp hLs (by omega)
          have hhd : F1.headD 0 < ds.length := by
            have h9 : F1.headD 0 ∈ F1 := by
              cases F1 with
              | nil => exact absurd hnF (by simp; omega)
              | cons a l => exact List.mem_cons_self ..
            have := HFR.out _ h9; have := HLD.out; omega
          have hdf := dlF HGG.out (HDV.out _ (List.getElem_mem hhd))
          have hN7 : (ds.getD (F1.headD 0) ([], [])).1.length ≤ 7 := by rw [getD_at _ hhd]; exact hdf.c7
          have hM7 : (ds.getD (F1.headD 0) ([], [])).2.length ≤ 7 := by rw [getD_at _ hhd]; exact hdf.s7
          have hrg : ∀ d ∈ Ls, RngD q (ds.getD (F1.headD 0) ([], [])).1.length (ds.getD (F1.headD 0) ([], [])).2.length d := fun d hd => by
            rw [hLs] at hd
            obtain ⟨t, ht, rfl⟩ := List.mem_map.1 hd
            have ht2 := List.mem_range.1 ht
            exact hrgd _ (by rw [getD_at _ (show t < F1.length by omega)]; exact List.getElem_mem _) _
          have hvv : rhV p q g cs ixs ds = ((List.range (ds.getD (F1.headD 0) ([], [])).1.length).map fun j => cColC p q (((F1.take n).map fun k => ds.getD k ([], [])).zip lam) j 1, (List.range (ds.getD (F1.headD 0) ([], [])).2.length).map fun j => cColS q (((F1.take n).map fun k => ds.getD k ([], [])).zip lam) j 0) := by
            unfold rhV rhZ
            rw [HV.out, HF.out, HXS.out, HLC.out, HLAM.out]
            rfl
          rw [← hvv] at hsum
          have HVV := Lib.hid hsum
          generalize (ds.getD (F1.headD 0) ([], [])).1.length = NN at *
          generalize (ds.getD (F1.headD 0) ([], [])).2.length = MM at *
          have hzc := hZ.cap
          have CC0 := (B0.ext E6).cells
          clear hvv hsum hsp hrgd hLs hdf hhd
          go_wp2_with fail
          refine (sumOf_any p q g Z n zc Ls NN MM _ HG.out (by omega) (by omega) hrd hLl hn1 (by omega) hzc (by omega) (by omega) hrg).mono ?_
          rintro en w8 ⟨Q1, q1, Q2, q2, rfl, oK, hb8⟩
          rw [HVV.out] at oK
          have BF := (B1.ext E6).ext hb8
          have FZ := BF.frozen
          have CN := BF.cells
          have CZ := ((BF.set_ 0 (.slice Q1 NN q1)).set_ 1 (.slice Q2 MM q2)).cells
          have hwz := EZ.size
          have hX8 := (hX.ext E6).ext hb8
          have hXl := (hX.ext E6).low
          have hw9 := EW.size
          have hx9 := hX.len
          rw [castL_length] at hx9
          clear CC0
          go_wp2
          refine bodyPost_ret (v := .tuple #[.agg #[.slice Q1 NN q1, .slice Q2 MM q2], .slice X x xc, .bool true]) (by simp [results, Try.results10, CZ, go_sem]) rfl ⟨Q1, NN, q1, Q2, MM, q2, X, x, xc, by rw [HV.out], (oK.keepBlk BF (by decide) (only_two _ _ _ _ _ _)).more (by first | exact Nat.le_refl _ | omega | (simp; done) | (simp; omega)), by rw [HVO.out]; exact (hX8.keepBlk BF (by decide) (only_two _ _ _ _ _ _)).more (by first | exact Nat.le_refl _ | omega | (simp; done) | (simp; omega)), by omega, Apart.of_high hXl oK.high, (EZ.trans hb8).only1 (by first | exact Nat.le_refl _ | omega | (simp; done) | (simp; omega)) (only_two _ _ _ _ _ _)⟩
end Go.Proofs.Ytnhdohjlbchniaa
