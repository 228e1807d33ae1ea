/- Contracts for ReshareKey: the reference's. (Printed by tools/gen_resh2.py.) -/
import Derived.Test.YtnhdohjlbchniaaProg
import Derived.Test.YtnhdohjlbchniaaResh
import Derived.Test.YtnhdohjlbchniaaPlus2
import Derived.Test.YtnhdohjlbchniaaYp
namespace Go.Proofs.Ytnhdohjlbchniaa
open Go.RowKit
set_option linter.unusedVariables false
set_option linter.unusedSimpArgs false
theorem cColC_take {p q : Int} {Zl : List ((List Int × List Int) × Int)} {k j : Nat} (hk : k < Zl.length) (x : Int) : cColC p q (Zl.take (k + 1)) j x = gmul p [cColC p q (Zl.take k) j x, gpw p q (Zl[k].1.1.getD j 0) Zl[k].2] := by
  unfold cColC
  rw [List.take_succ_eq_append_getElem hk, List.foldl_append]; rfl
theorem cColS_take {q : Int} {Zl : List ((List Int × List Int) × Int)} {k j : Nat} (hk : k < Zl.length) (x : Int) : cColS q (Zl.take (k + 1)) j x = (cColS q (Zl.take k) j x + Zl[k].1.2.getD j 0 * Zl[k].2) % q := by
  unfold cColS
  rw [List.take_succ_eq_append_getElem hk, List.foldl_append]; rfl
theorem cColC_rg {p q : Int} (h : GrpB p q) (Zl : List ((List Int × List Int) × Int)) (j : Nat) : ∀ k, k ≤ Zl.length → 0 ≤ cColC p q (Zl.take k) j 1 ∧ cColC p q (Zl.take k) j 1 ≤ 2000000000
  | 0, _ => by simp [cColC]
  | k + 1, hk => by
    have ih := cColC_rg h Zl j k (by omega)
    rw [cColC_take (by omega)]
    have h9 := gpw_rg p q (Zl[k].1.1.getD j 0) Zl[k].2 h
    exact gmul_rg h fun z hz => by
      simp only [List.mem_cons, List.not_mem_nil, or_false] at hz
      rcases hz with rfl | rfl <;> omega
theorem cColS_rg {q : Int} (hq : 2 ≤ q) (Zl : List ((List Int × List Int) × Int)) (j : Nat) : ∀ k, k ≤ Zl.length → 0 ≤ cColS q (Zl.take k) j 0 ∧ cColS q (Zl.take k) j 0 < q
  | 0, _ => by simp [cColS]; omega
  | k + 1, hk => by
    rw [cColS_take (by omega)]
    exact ⟨Int.emod_nonneg _ (by omega), Int.emod_lt_of_pos _ (by omega)⟩
theorem xs_nodup {F1 : List Nat} {ixs : List Int} {n : Nat} (hp : F1.Pairwise (· < ·)) (hr : ∀ k ∈ F1, k < ixs.length) (hd : diffB ixs = true) : ((F1.take n).map fun k => ixs.getD k 0).Nodup := by
  have hn : ixs.Nodup := of_decide_eq_true hd
  unfold List.Nodup
  rw [List.pairwise_map]
  refine (hp.sublist (List.take_sublist n F1)).imp_of_mem fun {a b} ha hb hab => ?_
  have h1 := hr a (List.mem_of_mem_take ha)
  have h2 := hr b (List.mem_of_mem_take hb)
  rw [getD_at _ h1, getD_at _ h2]
  exact (List.pairwise_iff_getElem.1 hn) a b h1 h2 hab
set_option maxRecDepth 100000 in
set_option maxHeartbeats 8000000 in
theorem sReshareKey_any (p q g : Int) (A : Option Addr) (n c : Nat) (cs : List Int) (B : Option Addr) (m d : Nat) (ixs : List Int) (D : Option Addr) (r e : Nat) (ds : List (List Int × List Int)) (w : World) (ha : SlI w A n c cs) (hb : SlI w B m d ixs) (hd : RdD w D ds) (hl : ds.length = r) (hr : r ≤ 1048576) :
    Calls Try.prog 6 #[.agg #[.int .i64 p, .int .i64 q, .int .i64 g], .slice A n c, .slice B m d, .slice D r e] w fun en w' => ∃ A' n' c' B' m' d' C k e', en = .returned (.tuple #[.agg #[.slice A' n' c', .slice B' m' d'], .slice C k e', .bool (rhB p q g cs ixs ds)]) ∧ OwnK w' w.heap.size A' n' c' B' m' d' (rhV p q g cs ixs ds).1 (rhV p q g cs ixs ds).2 ∧ OwnI w' w.heap.size 3 C k e' (rhO p q g cs ixs ds) ∧ (n' ≤ 1000 ∧ m' ≤ 1000 ∧ k ≤ 1000) ∧ Apart (fpI A' ++ fpI B') (fpI C) ∧ Ext w w' := by
  have HLC := Lib.hid ha.len
  have HLI := Lib.hid hb.len
  have HLD := Lib.hid hl
  have hac := ha.le
  have hbc : m ≤ d ∧ d ≤ maxLen := ⟨hb.cap, hb.max⟩
  have E := (((Ext.refl w).alloc (.cells #[.int .i64 p, .int .i64 q, .int .i64 g] 31)).alloc (.cells #[.slice none 0 0, .slice none 0 0] 28))
  have B0 := ((Blk.new w 31 #[.int .i64 p, .int .i64 q, .int .i64 g]).alloc (.cells #[.slice none 0 0, .slice none 0 0] 28))
  have B1 := (Blk.new (w.alloc (.cells #[.int .i64 p, .int .i64 q, .int .i64 g] 31)) 28 #[.slice none 0 0, .slice none 0 0])
  simp only [World.size_alloc] at B1
  cases h1 : (decide (7 < q) && grpB p q g)
  · have H1 := Lib.hid h1
    have hv : rhB p q g cs ixs ds = false := by unfold rhB rhG; simp only [h1, Bool.true_and, Bool.false_and, Bool.and_false]
    have hvv : rhV p q g cs ixs ds = ([], []) := by unfold rhV; rw [hv]; rfl
    have hvo : rhO p q g cs ixs ds = [] := by unfold rhO; rw [hv]; rfl
    have HV := Lib.hid hv
    have HVV := Lib.hid hvv
    have HVO := Lib.hid hvo
    clear hv hvv hvo
    clear h1
    go_enter Try.func6, Try.ntmps6
    have CC0 := B0.cells
    have CC1 := B1.cells
    go_wp2_with fail
    refine (sGroup_any p q g _).mono ?_
    rintro en w9 ⟨hen, hb9⟩
    rw [H1.out] at hen; subst hen
    replace E := E.trans hb9
    replace B0 := B0.ext hb9
    replace B1 := B1.ext hb9
    clear hb9 CC0 CC1
    have BF := B1
    have FZ := BF.frozen
    have CN := BF.cells
    have CZ := ((BF.set_ 0 (.slice none 0 0)).set_ 1 (.slice none 0 0)).cells
    go_wp2
    refine bodyPost_ret (v := .tuple #[.agg #[.slice none 0 0, .slice none 0 0], .slice none 0 0, .bool false]) (by simp [results, Try.results6, CZ, go_sem]) rfl ⟨none, 0, 0, none, 0, 0, none, 0, 0, by rw [HV.out], by rw [HVV.out]; exact OwnK.nil _ _, by rw [HVO.out]; exact OwnI.nil _ _ _, by omega, fun b hb => by simp [fpI] at hb, E.only1 (by first | exact Nat.le_refl _ | omega | (simp; done) | (simp; omega)) (only_two _ _ _ _ _ _)⟩
  have H1 := Lib.hid h1
  have HG := Lib.hid (grpB_in (g := g) (by simp only [Bool.and_eq_true] at h1; exact h1.2)).bd
  cases h2 : (inR cs.length 1 7 && cs.all (elB p q))
  · have H2 := Lib.hid h2
    have hv : rhB p q g cs ixs ds = false := by unfold rhB rhG; simp only [h1, h2, Bool.true_and, Bool.false_and, Bool.and_false]
    have hvv : rhV p q g cs ixs ds = ([], []) := by unfold rhV; rw [hv]; rfl
    have hvo : rhO p q g cs ixs ds = [] := by unfold rhO; rw [hv]; rfl
    have HV := Lib.hid hv
    have HVV := Lib.hid hvv
    have HVO := Lib.hid hvo
    clear hv hvv hvo
    rw [HLC.out] at H2
    clear h1 h2
    go_enter Try.func6, Try.ntmps6
    have CC0 := B0.cells
    have CC1 := B1.cells
    go_wp2_with fail
    refine (sGroup_any p q g _).mono ?_
    rintro en w9 ⟨hen, hb9⟩
    rw [H1.out] at hen; subst hen
    replace E := E.trans hb9
    replace B0 := B0.ext hb9
    replace B1 := B1.ext hb9
    clear hb9 CC0 CC1
    have CC0 := B0.cells
    have CC1 := B1.cells
    go_wp2_with fail
    refine (sCommits_any p q g A n c cs _ HG.out (ha.ext E).rd HLC.out (by omega)).mono ?_
    rintro en w9 ⟨hen, hb9⟩
    rw [H2.out] at hen; subst hen
    replace E := E.trans hb9
    replace B0 := B0.ext hb9
    replace B1 := B1.ext hb9
    clear hb9 CC0 CC1
    have BF := B1
    have FZ := BF.frozen
    have CN := BF.cells
    have CZ := ((BF.set_ 0 (.slice none 0 0)).set_ 1 (.slice none 0 0)).cells
    go_wp2
    refine bodyPost_ret (v := .tuple #[.agg #[.slice none 0 0, .slice none 0 0], .slice none 0 0, .bool false]) (by simp [results, Try.results6, CZ, go_sem]) rfl ⟨none, 0, 0, none, 0, 0, none, 0, 0, by rw [HV.out], by rw [HVV.out]; exact OwnK.nil _ _, by rw [HVO.out]; exact OwnI.nil _ _ _, by omega, fun b hb => by simp [fpI] at hb, E.only1 (by first | exact Nat.le_refl _ | omega | (simp; done) | (simp; omega)) (only_two _ _ _ _ _ _)⟩
  have H2 := Lib.hid h2
  cases h3 : dlsB p q ds
  · have H3 := Lib.hid h3
    have hv : rhB p q g cs ixs ds = false := by unfold rhB rhG; simp only [h1, h2, h3, Bool.true_and, Bool.false_and, Bool.and_false]
    have hvv : rhV p q g cs ixs ds = ([], []) := by unfold rhV; rw [hv]; rfl
    have hvo : rhO p q g cs ixs ds = [] := by unfold rhO; rw [hv]; rfl
    have HV := Lib.hid hv
    have HVV := Lib.hid hvv
    have HVO := Lib.hid hvo
    clear hv hvv hvo
    rw [HLC.out] at H2
    clear h1 h2 h3
    go_enter Try.func6, Try.ntmps6
    have CC0 := B0.cells
    have CC1 := B1.cells
    go_wp2_with fail
    refine (sGroup_any p q g _).mono ?_
    rintro en w9 ⟨hen, hb9⟩
    rw [H1.out] at hen; subst hen
    replace E := E.trans hb9
    replace B0 := B0.ext hb9
    replace B1 := B1.ext hb9
    clear hb9 CC0 CC1
    have CC0 := B0.cells
    have CC1 := B1.cells
    go_wp2_with fail
    refine (sCommits_any p q g A n c cs _ HG.out (ha.ext E).rd HLC.out (by omega)).mono ?_
    rintro en w9 ⟨hen, hb9⟩
    rw [H2.out] at hen; subst hen
    replace E := E.trans hb9
    replace B0 := B0.ext hb9
    replace B1 := B1.ext hb9
    clear hb9 CC0 CC1
    have CC0 := B0.cells
    have CC1 := B1.cells
    go_wp2_with fail
    refine (rList_any p q g D r e ds _ HG.out (hd.ext E) HLD.out (by unfold maxLen; omega)).mono ?_
    rintro en w9 ⟨hen, hb9⟩
    rw [H3.out] at hen; subst hen
    replace E := E.trans hb9
    replace B0 := B0.ext hb9
    replace B1 := B1.ext hb9
    clear hb9 CC0 CC1
    have BF := B1
    have FZ := BF.frozen
    have CN := BF.cells
    have CZ := ((BF.set_ 0 (.slice none 0 0)).set_ 1 (.slice none 0 0)).cells
    go_wp2
    refine bodyPost_ret (v := .tuple #[.agg #[.slice none 0 0, .slice none 0 0], .slice none 0 0, .bool false]) (by simp [results, Try.results6, CZ, go_sem]) rfl ⟨none, 0, 0, none, 0, 0, none, 0, 0, by rw [HV.out], by rw [HVV.out]; exact OwnK.nil _ _, by rw [HVO.out]; exact OwnI.nil _ _ _, by omega, fun b hb => by simp [fpI] at hb, E.only1 (by first | exact Nat.le_refl _ | omega | (simp; done) | (simp; omega)) (only_two _ _ _ _ _ _)⟩
  have H3 := Lib.hid h3
  cases h4 : decide (ds.length = ixs.length)
  · have H4 := Lib.hid h4
    have hv : rhB p q g cs ixs ds = false := by unfold rhB rhG; simp only [h1, h2, h3, h4, Bool.true_and, Bool.false_and, Bool.and_false]
    have hvv : rhV p q g cs ixs ds = ([], []) := by unfold rhV; rw [hv]; rfl
    have hvo : rhO p q g cs ixs ds = [] := by unfold rhO; rw [hv]; rfl
    have HV := Lib.hid hv
    have HVV := Lib.hid hvv
    have HVO := Lib.hid hvo
    clear hv hvv hvo
    rw [HLC.out] at H2
    have hne : ((m : Int) != (r : Int)) = true := by have := of_decide_eq_false h4; have h8 := HLI.out; have h9 := HLD.out; simp; omega
    clear h1 h2 h3 h4
    go_enter Try.func6, Try.ntmps6
    have CC0 := B0.cells
    have CC1 := B1.cells
    go_wp2_with fail
    refine (sGroup_any p q g _).mono ?_
    rintro en w9 ⟨hen, hb9⟩
    rw [H1.out] at hen; subst hen
    replace E := E.trans hb9
    replace B0 := B0.ext hb9
    replace B1 := B1.ext hb9
    clear hb9 CC0 CC1
    have CC0 := B0.cells
    have CC1 := B1.cells
    go_wp2_with fail
    refine (sCommits_any p q g A n c cs _ HG.out (ha.ext E).rd HLC.out (by omega)).mono ?_
    rintro en w9 ⟨hen, hb9⟩
    rw [H2.out] at hen; subst hen
    replace E := E.trans hb9
    replace B0 := B0.ext hb9
    replace B1 := B1.ext hb9
    clear hb9 CC0 CC1
    have CC0 := B0.cells
    have CC1 := B1.cells
    go_wp2_with fail
    refine (rList_any p q g D r e ds _ HG.out (hd.ext E) HLD.out (by unfold maxLen; omega)).mono ?_
    rintro en w9 ⟨hen, hb9⟩
    rw [H3.out] at hen; subst hen
    replace E := E.trans hb9
    replace B0 := B0.ext hb9
    replace B1 := B1.ext hb9
    clear hb9 CC0 CC1
    have BF := B1
    have FZ := BF.frozen
    have CN := BF.cells
    have CZ := ((BF.set_ 0 (.slice none 0 0)).set_ 1 (.slice none 0 0)).cells
    go_wp2
    refine bodyPost_ret (v := .tuple #[.agg #[.slice none 0 0, .slice none 0 0], .slice none 0 0, .bool false]) (by simp [results, Try.results6, CZ, go_sem]) rfl ⟨none, 0, 0, none, 0, 0, none, 0, 0, by rw [HV.out], by rw [HVV.out]; exact OwnK.nil _ _, by rw [HVO.out]; exact OwnI.nil _ _ _, by omega, fun b hb => by simp [fpI] at hb, E.only1 (by first | exact Nat.le_refl _ | omega | (simp; done) | (simp; omega)) (only_two _ _ _ _ _ _)⟩
  have H4 := Lib.hid h4
  cases h5 : allR ixs 1 7
  · have H5 := Lib.hid h5
    have hv : rhB p q g cs ixs ds = false := by unfold rhB rhG; simp only [h1, h2, h3, h4, h5, Bool.true_and, Bool.false_and, Bool.and_false]
    have hvv : rhV p q g cs ixs ds = ([], []) := by unfold rhV; rw [hv]; rfl
    have hvo : rhO p q g cs ixs ds = [] := by unfold rhO; rw [hv]; rfl
    have HV := Lib.hid hv
    have HVV := Lib.hid hvv
    have HVO := Lib.hid hvo
    clear hv hvv hvo
    rw [HLC.out] at H2
    have hne : ((m : Int) != (r : Int)) = false := by have := of_decide_eq_true h4; have h8 := HLI.out; have h9 := HLD.out; simp; omega
    clear h1 h2 h3 h4 h5
    go_enter Try.func6, Try.ntmps6
    have CC0 := B0.cells
    have CC1 := B1.cells
    go_wp2_with fail
    refine (sGroup_any p q g _).mono ?_
    rintro en w9 ⟨hen, hb9⟩
    rw [H1.out] at hen; subst hen
    replace E := E.trans hb9
    replace B0 := B0.ext hb9
    replace B1 := B1.ext hb9
    clear hb9 CC0 CC1
    have CC0 := B0.cells
    have CC1 := B1.cells
    go_wp2_with fail
    refine (sCommits_any p q g A n c cs _ HG.out (ha.ext E).rd HLC.out (by omega)).mono ?_
    rintro en w9 ⟨hen, hb9⟩
    rw [H2.out] at hen; subst hen
    replace E := E.trans hb9
    replace B0 := B0.ext hb9
    replace B1 := B1.ext hb9
    clear hb9 CC0 CC1
    have CC0 := B0.cells
    have CC1 := B1.cells
    go_wp2_with fail
    refine (rList_any p q g D r e ds _ HG.out (hd.ext E) HLD.out (by unfold maxLen; omega)).mono ?_
    rintro en w9 ⟨hen, hb9⟩
    rw [H3.out] at hen; subst hen
    replace E := E.trans hb9
    replace B0 := B0.ext hb9
    replace B1 := B1.ext hb9
    clear hb9 CC0 CC1
    have CC0 := B0.cells
    have CC1 := B1.cells
    go_wp2_with fail
    refine (l1All_any B m d ixs 1 7 _ (hb.ext E).rd HLI.out (Nat.le_trans hbc.1 hbc.2)).mono ?_
    rintro en w9 ⟨hen, rfl⟩
    rw [H5.out] at hen; subst hen
    clear CC0 CC1
    have BF := B1
    have FZ := BF.frozen
    have CN := BF.cells
    have CZ := ((BF.set_ 0 (.slice none 0 0)).set_ 1 (.slice none 0 0)).cells
    go_wp2
    refine bodyPost_ret (v := .tuple #[.agg #[.slice none 0 0, .slice none 0 0], .slice none 0 0, .bool false]) (by simp [results, Try.results6, CZ, go_sem]) rfl ⟨none, 0, 0, none, 0, 0, none, 0, 0, by rw [HV.out], by rw [HVV.out]; exact OwnK.nil _ _, by rw [HVO.out]; exact OwnI.nil _ _ _, by omega, fun b hb => by simp [fpI] at hb, E.only1 (by first | exact Nat.le_refl _ | omega | (simp; done) | (simp; omega)) (only_two _ _ _ _ _ _)⟩
  have H5 := Lib.hid h5
  cases h6 : diffB ixs
  · have H6 := Lib.hid h6
    have hv : rhB p q g cs ixs ds = false := by unfold rhB rhG; simp only [h1, h2, h3, h4, h5, h6, Bool.true_and, Bool.false_and, Bool.and_false]
    have hvv : rhV p q g cs ixs ds = ([], []) := by unfold rhV; rw [hv]; rfl
    have hvo : rhO p q g cs ixs ds = [] := by unfold rhO; rw [hv]; rfl
    have HV := Lib.hid hv
    have HVV := Lib.hid hvv
    have HVO := Lib.hid hvo
    clear hv hvv hvo
    rw [HLC.out] at H2
    have hne : ((m : Int) != (r : Int)) = false := by have := of_decide_eq_true h4; have h8 := HLI.out; have h9 := HLD.out; simp; omega
    clear h1 h2 h3 h4 h5 h6
    go_enter Try.func6, Try.ntmps6
    have CC0 := B0.cells
    have CC1 := B1.cells
    go_wp2_with fail
    refine (sGroup_any p q g _).mono ?_
    rintro en w9 ⟨hen, hb9⟩
    rw [H1.out] at hen; subst hen
    replace E := E.trans hb9
    replace B0 := B0.ext hb9
    replace B1 := B1.ext hb9
    clear hb9 CC0 CC1
    have CC0 := B0.cells
    have CC1 := B1.cells
    go_wp2_with fail
    refine (sCommits_any p q g A n c cs _ HG.out (ha.ext E).rd HLC.out (by omega)).mono ?_
    rintro en w9 ⟨hen, hb9⟩
    rw [H2.out] at hen; subst hen
    replace E := E.trans hb9
    replace B0 := B0.ext hb9
    replace B1 := B1.ext hb9
    clear hb9 CC0 CC1
    have CC0 := B0.cells
    have CC1 := B1.cells
    go_wp2_with fail
    refine (rList_any p q g D r e ds _ HG.out (hd.ext E) HLD.out (by unfold maxLen; omega)).mono ?_
    rintro en w9 ⟨hen, hb9⟩
    rw [H3.out] at hen; subst hen
    replace E := E.trans hb9
    replace B0 := B0.ext hb9
    replace B1 := B1.ext hb9
    clear hb9 CC0 CC1
    have CC0 := B0.cells
    have CC1 := B1.cells
    go_wp2_with fail
    refine (l1All_any B m d ixs 1 7 _ (hb.ext E).rd HLI.out (Nat.le_trans hbc.1 hbc.2)).mono ?_
    rintro en w9 ⟨hen, rfl⟩
    rw [H5.out] at hen; subst hen
    clear CC0 CC1
    have CC0 := B0.cells
    have CC1 := B1.cells
    go_wp2_with fail
    refine (yPoints_any B m d ixs _ (hb.ext E).rd HLI.out hbc.1 hbc.2).mono ?_
    rintro en w9 ⟨hen, rfl⟩
    rw [H6.out] at hen; subst hen
    clear CC0 CC1
    have BF := B1
    have FZ := BF.frozen
    have CN := BF.cells
    have CZ := ((BF.set_ 0 (.slice none 0 0)).set_ 1 (.slice none 0 0)).cells
    go_wp2
    refine bodyPost_ret (v := .tuple #[.agg #[.slice none 0 0, .slice none 0 0], .slice none 0 0, .bool false]) (by simp [results, Try.results6, CZ, go_sem]) rfl ⟨none, 0, 0, none, 0, 0, none, 0, 0, by rw [HV.out], by rw [HVV.out]; exact OwnK.nil _ _, by rw [HVO.out]; exact OwnI.nil _ _ _, by omega, fun b hb => by simp [fpI] at hb, E.only1 (by first | exact Nat.le_refl _ | omega | (simp; done) | (simp; omega)) (only_two _ _ _ _ _ _)⟩
  have H6 := Lib.hid h6
  rw [HLC.out] at H2
  have hrm : r = m := by have := of_decide_eq_true h4; have h8 := HLI.out; have h9 := HLD.out; omega
  have hne : ((m : Int) != (r : Int)) = false := by simp; omega
  have hgg : grpB p q g = true := by simp only [Bool.and_eq_true] at h1; exact h1.2
  have hq7 : 7 < q := by simp only [Bool.and_eq_true] at h1; exact of_decide_eq_true h1.1
  have HGG := Lib.hid hgg
  have hGI := grpB_in hgg
  have hq2 := hGI.q2
  have hp9 := hGI.p9
  have hqp := hGI.qp
  have hcr : (∀ y ∈ cs, 0 ≤ y ∧ y ≤ 3000000000) ∧ 1 ≤ n ∧ n ≤ 7 := by
    simp only [Bool.and_eq_true] at h2
    have := inR_iff.1 h2.1
    have h8 := HLC.out
    exact ⟨els_rg hGI.p9 h2.2, by omega, by omega⟩
  obtain ⟨hcs, hn1, hn7⟩ := hcr
  have hix : ∀ y ∈ ixs, 1 ≤ y ∧ y ≤ 7 := by
    exact allR_iff.1 h5
  have hG5 : rhG p q g cs ixs ds = true := by simp only [rhG, h1, h2, h3, h4, h5, h6, Bool.and_self]
  have HG5 := Lib.hid hG5
  have HCS := Lib.hid hcs
  have HIX := Lib.hid hix
  have HDV := Lib.hid (dls_in h3).2
  have hds := (dls_in h3).1
  have hr7 : r ≤ 7 := by have h9 := HLD.out; omega
  have HRM := Lib.hid hrm
  clear hrm
  have HDF := Lib.hid h6
  clear h1 h2 h3 h4 h5 h6 hgg hG5 hcs hix hds
  go_enter Try.func6, Try.ntmps6
  have CC0 := B0.cells
  have CC1 := B1.cells
  go_wp2_with fail
  refine (sGroup_any p q g _).mono ?_
  rintro en w9 ⟨hen, hb9⟩
  rw [H1.out] at hen; subst hen
  replace E := E.trans hb9
  replace B0 := B0.ext hb9
  replace B1 := B1.ext hb9
  clear hb9 CC0 CC1
  have CC0 := B0.cells
  have CC1 := B1.cells
  go_wp2_with fail
  refine (sCommits_any p q g A n c cs _ HG.out (ha.ext E).rd HLC.out (by omega)).mono ?_
  rintro en w9 ⟨hen, hb9⟩
  rw [H2.out] at hen; subst hen
  replace E := E.trans hb9
  replace B0 := B0.ext hb9
  replace B1 := B1.ext hb9
  clear hb9 CC0 CC1
  have CC0 := B0.cells
  have CC1 := B1.cells
  go_wp2_with fail
  refine (rList_any p q g D r e ds _ HG.out (hd.ext E) HLD.out (by unfold maxLen; omega)).mono ?_
  rintro en w9 ⟨hen, hb9⟩
  rw [H3.out] at hen; subst hen
  replace E := E.trans hb9
  replace B0 := B0.ext hb9
  replace B1 := B1.ext hb9
  clear hb9 CC0 CC1
  have CC0 := B0.cells
  have CC1 := B1.cells
  go_wp2_with fail
  refine (l1All_any B m d ixs 1 7 _ (hb.ext E).rd HLI.out (Nat.le_trans hbc.1 hbc.2)).mono ?_
  rintro en w9 ⟨hen, rfl⟩
  rw [H5.out] at hen; subst hen
  clear CC0 CC1
  have CC0 := B0.cells
  have CC1 := B1.cells
  go_wp2_with fail
  refine (yPoints_any B m d ixs _ (hb.ext E).rd HLI.out hbc.1 hbc.2).mono ?_
  rintro en w9 ⟨hen, rfl⟩
  rw [H6.out] at hen; subst hen
  clear CC0 CC1
  have EW := E
  generalize w9 = w0 at *
  go_wp2
  go_loopw [11, 12, 13, 63] (fun us ys os k wr => ∃ (j : Nat) (U : Option Addr) (u uc : Nat) (Y : Option Addr) (yc : Nat) (X : Option Addr) (x xc : Nat) (rs : List (Option Addr × Nat × Nat)), j ≤ r ∧ k = .int .i64 j ∧ us = .slice U u uc ∧ ys = .slice Y u yc ∧ os = .slice X x xc ∧ u ≤ j ∧ x ≤ j ∧ OwnW 2 wr w0.heap.size 68 U u uc (rs.map rowV) ∧ RowsRd w0 rs (flD ((rsF (rsR p q g cs ixs ds) (rsS ds) j).1.map fun k => ds.getD k ([], []))) ∧ OwnI wr w0.heap.size 3 Y u yc ((rsF (rsR p q g cs ixs ds) (rsS ds) j).1.map fun k => ixs.getD k 0) ∧ OwnI wr w0.heap.size 3 X x xc (castL (rsF (rsR p q g cs ixs ds) (rsS ds) j).2) ∧ Apart (fpI Y) (fpI X) ∧ Ext w0 wr) (fun _ _ _ k _ => r - (intOf k).toNat)
  case atStart => exact ⟨0, none, 0, 0, none, 0, none, 0, 0, [], Nat.zero_le _, rfl, rfl, rfl, rfl, Nat.le_refl _, Nat.le_refl _, OwnW.nil _ _ _ _, RowsRd.nil _, OwnI.nil _ _ _, OwnI.nil _ _ _, fun b hb => by simp [fpI] at hb, Ext.refl _⟩
  case round =>
    obtain ⟨j, U, u, uc, Y, yc, X, x, xc, rs, hj, rfl, rfl, rfl, rfl, huj, hxj, hU, hRR, hY, hX, hap, E2⟩ := hrel
    by_cases hlt : j < r
    · have hjd : j < ds.length := by have := HLD.out; omega
      have hjm : j < ixs.length := by have := HLI.out; have := HRM.out; omega
      obtain ⟨ad, hDA, A1, n1, c1, A2, m1, d1, hc0, hdd0, s10, s20⟩ := (hd.ext E).at_ hjd
      subst hDA
      obtain ⟨bd, hBA, hi0⟩ := (hb.ext E).rd.at_ hjm
      subst hBA
      have hc := E2.cell hc0
      have hdd := E2.cell hdd0
      have s1 := s10.ext E2
      have s2 := s20.ext E2
      have hdf := dlF HGG.out (HDV.out _ (List.getElem_mem hjd))
      have hrj : rsR p q g cs ixs ds j = (((ds[j].1.getD 0 0) == comO p q cs ixs[j] cs.length) && decide ((badL p q g ds[j].1 ds[j].2 ds[j].2.length).length = 0)) := by unfold rsR; rw [getD_at _ hjd, getD_at _ hjm]
      have hi7 := HIX.out _ (List.getElem_mem hjm)
      have hsj : ∀ k, rsS ds j k = (decide (ds[j].1.length = (ds.getD k ([], [])).1.length) && decide (ds[j].2.length = (ds.getD k ([], [])).2.length)) := fun k => by unfold rsS; rw [getD_at _ hjd]
      have hnx := rsF_succ (rsR p q g cs ixs ds) (rsS ds) j
      have hdj : ds.getD j ([], []) = ds[j] := getD_at _ hjd
      have hij : ixs.getD j 0 = ixs[j] := getD_at _ hjm
      generalize ds[j] = dd at *
      generalize ixs[j] = ij at *
      have hl1 := s1.len
      have hl2 := s2.len
      have hpos : 0 < dd.1.length := hdf.c1
      obtain ⟨ac, hAC, hx0⟩ := s1.rd.at_ hpos
      subst hAC
      have hx := (Ext.refl wr).alloc (.cells #[.slice (some ac) n1 c1, .slice A2 m1 d1] 68)
      have B3 := Blk.new wr 68 #[.slice (some ac) n1 c1, .slice A2 m1 d1]
      obtain ⟨x0, hx00⟩ : ∃ x0, dd.1[0] = x0 := ⟨_, rfl⟩
      obtain ⟨cv, hcv⟩ : ∃ cv, comO p q cs ij n = cv := ⟨_, rfl⟩
      obtain ⟨bl, hbl⟩ : ∃ bl, badL p q g dd.1 dd.2 m1 = bl := ⟨_, rfl⟩
      rw [hx00] at hx0
      have HCV := Lib.hid hcv
      have HBL := Lib.hid hbl
      obtain ⟨R0, hR0⟩ : ∃ R0, ((x0 == cv) && decide (bl.length = 0)) = R0 := ⟨_, rfl⟩
      have HR0 := Lib.hid hR0
      have HRJ : Hid (rsR p q g cs ixs ds j = R0) := by show _ = _; rw [hrj, getD_at _ hpos, hx00, HLC.out, hcv, hl2, hbl, hR0]
      rcases hs : rsF (rsR p q g cs ixs ds) (rsS ds) j with ⟨L1, L2⟩
      rw [hs] at hRR hY hX hnx
      obtain ⟨Zv, hZ⟩ : ∃ Zv, (R0 && (L1.isEmpty || rsS ds j (L1.headD 0))) = Zv := ⟨_, rfl⟩
      have HZ := Lib.hid hZ
      have HNX : Hid (rsF (rsR p q g cs ixs ds) (rsS ds) (j + 1) = if Zv = true then (L1 ++ [j], L2) else (L1, L2 ++ [j])) := by show _ = _; rw [hnx]; unfold rsStep; rw [HRJ.out, hZ]
      have HSJ := Lib.hid hsj
      have hlt1 : ∀ k ∈ L1, k < j := by have := (rsF_in (rsR p q g cs ixs ds) (rsS ds) j).1; rw [hs] at this; exact fun k hk => (this k hk).1
      have HL1 := Lib.hid hlt1
      clear hcv hbl hx00 hrj hnx hsj hc0 hdd0 hR0 hZ hs hlt1
      have HDJ := Lib.hid hdj
      have HIJ := Lib.hid hij
      have hi00 := hi0
      clear hdj hij
      have hEb := E.trans (E2.trans hx)
      replace hi0 := (E2.trans hx).cell hi0
      replace hx0 := hx.cell hx0
      have hb1 : (0 : Int) < (n1 : Int) := by omega
      have hb1n : 0 < n1 := by omega
      have hb2 : (j : Int) < (m : Int) := by have := HRM.out; omega
      have hb3 : (0 : Int) ≤ (j : Int) := by omega
      have hsx := hx.size
      replace hU := hU.ext hx
      replace hX := hX.ext hx
      replace hY := hY.ext hx
      replace s1 := s1.ext hx
      replace s2 := s2.ext hx
      have E3 := E2.trans hx
      go_upto_region 8 with (fail)
      clear hc hdd hx
      generalize hWb : wr.alloc (.cells #[.slice (some ac) n1 c1, .slice A2 m1 d1] 68) = Wb at *
      generalize hgd : wr.heap.size = gd at *
      clear hWb hgd
      have hS : ∀ V, Ext Wb V → V.cell? ⟨w.heap.size, 0, none⟩ = some (.int .i64 p) ∧ V.cell? ⟨w.heap.size, 1, none⟩ = some (.int .i64 q) ∧ V.cell? ⟨w.heap.size, 2, none⟩ = some (.int .i64 g) ∧ V.cell? ⟨gd, 0, none⟩ = some (.slice (some ac) n1 c1) ∧ V.cell? ⟨gd, 1, none⟩ = some (.slice A2 m1 d1) ∧ V.cell? ac = some (.int .i64 x0) ∧ V.cell? (bd.add j) = some (.int .i64 ij) := fun V hV => by
        have a0 := (B0.ext (E3.trans hV)).cells
        have a3 := (B3.ext hV).cells
        exact ⟨a0 0, a0 1, a0 2, a3 0, a3 1, hV.cell hx0, hV.cell hi0⟩
      go_cut [16] from 68 to 86 (fun b wx => b = .bool R0 ∧ Ext Wb wx)
      case first =>
        cases h7 : (x0 == cv)
        case false =>
          refine wp_region_held_drew (S := fun V => V.cell? ⟨w.heap.size, 0, none⟩ = some (.int .i64 p) ∧ V.cell? ⟨w.heap.size, 1, none⟩ = some (.int .i64 q) ∧ V.cell? ⟨w.heap.size, 2, none⟩ = some (.int .i64 g) ∧ V.cell? ⟨gd, 0, none⟩ = some (.slice (some ac) n1 c1) ∧ V.cell? ⟨gd, 1, none⟩ = some (.slice A2 m1 d1) ∧ V.cell? ac = some (.int .i64 x0) ∧ V.cell? (bd.add j) = some (.int .i64 ij)) (by kernel_rfl) ?_ (fun hHeld => ?_)
          · exact hS _ (by repeat (first | with_reducible assumption | with_reducible exact Ext.refl _ | with_reducible apply Ext.alloc | with_reducible apply Ext.drew | with_reducible apply Ext.drewN))
          refine' wpAnyH_take (i := 0) (v := _) ?hi0 (by kernel_rfl) (by kernel_rfl) (by kernel_rfl) ?hQ0 ?hy0 (by assumption) ?_
          case hi0 => (simp only [List.getElem?_toArray, List.getElem?_cons_zero]; rfl)
          case hy0 => refine Or.inl ⟨by rfl, ?_⟩; intro w hSw; (try dsimp only at hSw); go_simp <;> with_reducible rfl
          case hQ0 => exact fun _ _ _ h => h
          try simp only [Act.put, List.setIfInBounds_toArray, List.set_cons_zero, List.set_cons_succ]
          refine' wpAnyH_take (i := 1) (v := _) ?hi1 (by kernel_rfl) (by kernel_rfl) (by kernel_rfl) ?hQ1 ?hy1 (by assumption) ?_
          case hi1 => (simp only [List.getElem?_toArray, List.getElem?_cons_succ, List.getElem?_cons_zero]; rfl)
          case hy1 => refine Or.inl ⟨by rfl, ?_⟩; intro w hSw; (try dsimp only at hSw); go_simp <;> with_reducible rfl
          case hQ1 => exact fun _ _ _ h => h
          try simp only [Act.put, List.setIfInBounds_toArray, List.set_cons_zero, List.set_cons_succ]
          refine' wpAnyH_take (i := 2) (v := _) ?hi2 (by kernel_rfl) (by kernel_rfl) (by kernel_rfl) ?hQ2 ?hy2 (by assumption) ?_
          case hi2 => (simp only [List.getElem?_toArray, List.getElem?_cons_succ, List.getElem?_cons_zero]; rfl)
          case hy2 => refine Or.inl ⟨by rfl, ?_⟩; intro w hSw; (try dsimp only at hSw); go_simp <;> with_reducible rfl
          case hQ2 => exact fun _ _ _ h => h
          try simp only [Act.put, List.setIfInBounds_toArray, List.set_cons_zero, List.set_cons_succ]
          refine' wpAnyH_take (i := 3) (v := _) ?hi3 (by kernel_rfl) (by kernel_rfl) (by kernel_rfl) ?hQ3 ?hy3 (by assumption) ?_
          case hi3 => (simp only [List.getElem?_toArray, List.getElem?_cons_succ, List.getElem?_cons_zero]; rfl)
          case hy3 => refine Or.inl ⟨by rfl, ?_⟩; intro w hSw; (try dsimp only at hSw); go_simp <;> with_reducible rfl
          case hQ3 => exact fun _ _ _ h => h
          try simp only [Act.put, List.setIfInBounds_toArray, List.set_cons_zero, List.set_cons_succ]
          refine' wpAnyH_take (i := 4) (v := _) ?hi4 (by kernel_rfl) (by kernel_rfl) (by kernel_rfl) ?hQ4 ?hy4 (by assumption) ?_
          case hi4 => (simp only [List.getElem?_toArray, List.getElem?_cons_succ, List.getElem?_cons_zero]; rfl)
          case hy4 => refine Or.inl ⟨by rfl, ?_⟩; intro w hSw; (try dsimp only at hSw); go_simp <;> with_reducible rfl
          case hQ4 => exact fun _ _ _ h => h
          try simp only [Act.put, List.setIfInBounds_toArray, List.set_cons_zero, List.set_cons_succ]
          refine' wpAnyH_take (i := 5) (v := _) ?hi5 (by kernel_rfl) (by kernel_rfl) (by kernel_rfl) ?hQ5 ?hy5 (by assumption) ?_
          case hi5 => (simp only [List.getElem?_toArray, List.getElem?_cons_succ, List.getElem?_cons_zero]; rfl)
          case hy5 => refine Or.inl ⟨by rfl, ?_⟩; intro w hSw; (try dsimp only at hSw); go_simp <;> with_reducible rfl
          case hQ5 => exact fun _ _ _ h => h
          try simp only [Act.put, List.setIfInBounds_toArray, List.set_cons_zero, List.set_cons_succ]
          refine' wpAnyH_take (i := 6) (v := _) ?hi6 (by kernel_rfl) (by kernel_rfl) (by kernel_rfl) ?hQ6 ?hy6 (by assumption) ?_
          case hi6 => (simp only [List.getElem?_toArray, List.getElem?_cons_succ, List.getElem?_cons_zero]; rfl)
          case hy6 => refine Or.inl ⟨by rfl, ?_⟩; intro w hSw; (try dsimp only at hSw); go_simp <;> with_reducible rfl
          case hQ6 => exact fun _ _ _ h => h
          try simp only [Act.put, List.setIfInBounds_toArray, List.set_cons_zero, List.set_cons_succ]
          refine' wpAnyH_take (i := 7) (v := _) ?hi7 (by kernel_rfl) (by kernel_rfl) (by kernel_rfl) ?hQ7 ?hy7 (by assumption) ?_
          case hi7 => (simp only [List.getElem?_toArray, List.getElem?_cons_succ, List.getElem?_cons_zero]; rfl)
          case hy7 => refine Or.inl ⟨by rfl, ?_⟩; intro w hSw; (try dsimp only at hSw); go_simp <;> with_reducible rfl
          case hQ7 => exact fun _ _ _ h => h
          try simp only [Act.put, List.setIfInBounds_toArray, List.set_cons_zero, List.set_cons_succ]
          refine' wpAnyH_take (i := 8) (v := _) ?hi8 (by kernel_rfl) (by kernel_rfl) (by kernel_rfl) ?hQ8 ?hy8 (by assumption) ?_
          case hi8 => (simp only [List.getElem?_toArray, List.getElem?_cons_succ, List.getElem?_cons_zero]; rfl)
          case hy8 => refine Or.inl ⟨by rfl, ?_⟩; intro w hSw; (try dsimp only at hSw); go_simp <;> with_reducible rfl
          case hQ8 => exact fun _ _ _ h => h
          try simp only [Act.put, List.setIfInBounds_toArray, List.set_cons_zero, List.set_cons_succ]
          refine' wpAnyH_take (i := 9) (v := _) ?hi9 (by kernel_rfl) (by kernel_rfl) (by kernel_rfl) ?hQ9 ?hy9 (by assumption) ?_
          case hi9 => (simp only [List.getElem?_toArray, List.getElem?_cons_succ, List.getElem?_cons_zero]; rfl)
          case hy9 => refine Or.inl ⟨by rfl, ?_⟩; intro w hSw; (try dsimp only at hSw); go_simp <;> with_reducible rfl
          case hQ9 => exact fun _ _ _ h => h
          try simp only [Act.put, List.setIfInBounds_toArray, List.set_cons_zero, List.set_cons_succ]
          refine wpAnyH_ready (rs := [10]) (by kernel_rfl) (by simp) ?_
          refine AllReadyH.cons rfl (fun KK hKK => ?_) ?_
          · go_simp
            go_at_call 33
            refine (sAt_any p q g ij A n c cs _ HG.out (by omega) (by omega) (by omega) (RdI.ext ha.rd (Ext.trans hEb (by repeat (first | with_reducible assumption | with_reducible exact Ext.refl _ | with_reducible apply Ext.alloc | with_reducible apply Ext.drew | with_reducible apply Ext.drewN)))) HLC.out (by omega) HCS.out).mono ?_
            rintro ek wk10 ⟨hek, hbk10⟩
            rw [HCV.out] at hek; subst hek
            have hxk10 := Ext.trans (w := Wb) (by repeat (first | with_reducible assumption | with_reducible exact Ext.refl _ | with_reducible apply Ext.alloc | with_reducible apply Ext.drew | with_reducible apply Ext.drewN)) hbk10
            refine hKK.out _ _ ?_ (fun hHeld => ?_)
            · exact hS _ (by repeat (first | with_reducible assumption | with_reducible exact Ext.refl _ | with_reducible apply Ext.alloc | with_reducible apply Ext.drew | with_reducible apply Ext.drewN))
            clear hKK KK
            try simp only [Act.put, List.setIfInBounds_toArray, List.set_cons_zero, List.set_cons_succ]
            refine' wpAnyH_take (i := 11) (v := _) ?hi11 (by kernel_rfl) (by kernel_rfl) (by kernel_rfl) ?hQ11 ?hy11 (by assumption) ?_
            case hi11 => (simp only [List.getElem?_toArray, List.getElem?_cons_succ, List.getElem?_cons_zero]; rfl)
            case hy11 => refine Or.inl ⟨by rfl, ?_⟩; intro w hSw; (try dsimp only at hSw); go_simp <;> with_reducible rfl
            case hQ11 => exact fun _ _ _ h => h
            try simp only [Act.put, List.setIfInBounds_toArray, List.set_cons_zero, List.set_cons_succ]
            refine' wpAnyH_take (i := 12) (v := _) ?hi12 (by kernel_rfl) (by kernel_rfl) (by kernel_rfl) ?hQ12 ?hy12 (by assumption) ?_
            case hi12 => (simp only [List.getElem?_toArray, List.getElem?_cons_succ, List.getElem?_cons_zero]; rfl)
            case hy12 => refine Or.inl ⟨by rfl, ?_⟩; intro w hSw; (try dsimp only at hSw); go_simp <;> with_reducible rfl
            case hQ12 => exact fun _ _ _ h => h
            try simp only [Act.put, List.setIfInBounds_toArray, List.set_cons_zero, List.set_cons_succ]
            refine' wpAnyH_take (i := 13) (v := undef) ?hi13 (by kernel_rfl) (by kernel_rfl) (by kernel_rfl) ?hQ13 ?hy13 (by assumption) ?_
            case hi13 => (simp only [List.getElem?_toArray, List.getElem?_cons_succ, List.getElem?_cons_zero]; rfl)
            case hQ13 => exact fun _ _ _ h => h
            case hy13 => exact Or.inr ⟨by rfl, rfl⟩
            try simp only [Act.put, List.setIfInBounds_toArray, List.set_cons_zero, List.set_cons_succ]
            refine' wpAnyH_take (i := 14) (v := undef) ?hi14 (by kernel_rfl) (by kernel_rfl) (by kernel_rfl) ?hQ14 ?hy14 (by assumption) ?_
            case hi14 => (simp only [List.getElem?_toArray, List.getElem?_cons_succ, List.getElem?_cons_zero]; rfl)
            case hQ14 => exact fun _ _ _ h => h
            case hy14 => exact Or.inr ⟨by rfl, rfl⟩
            try simp only [Act.put, List.setIfInBounds_toArray, List.set_cons_zero, List.set_cons_succ]
            refine' wpAnyH_take (i := 15) (v := undef) ?hi15 (by kernel_rfl) (by kernel_rfl) (by kernel_rfl) ?hQ15 ?hy15 (by assumption) ?_
            case hi15 => (simp only [List.getElem?_toArray, List.getElem?_cons_succ, List.getElem?_cons_zero]; rfl)
            case hQ15 => exact fun _ _ _ h => h
            case hy15 => exact Or.inr ⟨by rfl, rfl⟩
            try simp only [Act.put, List.setIfInBounds_toArray, List.set_cons_zero, List.set_cons_succ]
            refine' wpAnyH_take (i := 16) (v := undef) ?hi16 (by kernel_rfl) (by kernel_rfl) (by kernel_rfl) ?hQ16 ?hy16 (by assumption) ?_
            case hi16 => (simp only [List.getElem?_toArray, List.getElem?_cons_succ, List.getElem?_cons_zero]; rfl)
            case hQ16 => exact fun _ _ _ h => h
            case hy16 => exact Or.inr ⟨by rfl, rfl⟩
            try simp only [Act.put, List.setIfInBounds_toArray, List.set_cons_zero, List.set_cons_succ]
            refine' wpAnyH_take (i := 17) (v := undef) ?hi17 (by kernel_rfl) (by kernel_rfl) (by kernel_rfl) ?hQ17 ?hy17 (by assumption) ?_
            case hi17 => (simp only [List.getElem?_toArray, List.getElem?_cons_succ, List.getElem?_cons_zero]; rfl)
            case hQ17 => exact fun _ _ _ h => h
            case hy17 => exact Or.inr ⟨by rfl, rfl⟩
            try simp only [Act.put, List.setIfInBounds_toArray, List.set_cons_zero, List.set_cons_succ]
            refine' wpAnyH_take (i := 18) (v := _) ?hi18 (by kernel_rfl) (by kernel_rfl) (by kernel_rfl) ?hQ18 ?hy18 (by assumption) ?_
            case hi18 => (simp only [List.getElem?_toArray, List.getElem?_cons_succ, List.getElem?_cons_zero]; rfl)
            case hy18 => refine Or.inl ⟨by rfl, ?_⟩; intro w hSw; (try dsimp only at hSw); go_simp <;> with_reducible rfl
            case hQ18 => exact fun _ _ _ h => h
            try simp only [Act.put, List.setIfInBounds_toArray, List.set_cons_zero, List.set_cons_succ]
            refine' wpAnyH_take (i := 19) (v := _) ?hi19 (by kernel_rfl) (by kernel_rfl) (by kernel_rfl) ?hQ19 ?hy19 (by assumption) ?_
            case hi19 => (simp only [List.getElem?_toArray, List.getElem?_cons_succ, List.getElem?_cons_zero]; rfl)
            case hy19 => refine Or.inl ⟨by rfl, ?_⟩; intro w hSw; (try dsimp only at hSw); go_simp <;> with_reducible rfl
            case hQ19 => exact fun _ _ _ h => h
            try simp only [Act.put, List.setIfInBounds_toArray, List.set_cons_zero, List.set_cons_succ]
            refine wpAnyH_done (by kernel_rfl) ?_ _
            go_wp2
            go_meet
            exact ⟨by rw [← HR0.out, h7]; rfl, hxk10⟩
          exact AllReadyH.nil
        refine wp_region_held_drew (S := fun V => V.cell? ⟨w.heap.size, 0, none⟩ = some (.int .i64 p) ∧ V.cell? ⟨w.heap.size, 1, none⟩ = some (.int .i64 q) ∧ V.cell? ⟨w.heap.size, 2, none⟩ = some (.int .i64 g) ∧ V.cell? ⟨gd, 0, none⟩ = some (.slice (some ac) n1 c1) ∧ V.cell? ⟨gd, 1, none⟩ = some (.slice A2 m1 d1) ∧ V.cell? ac = some (.int .i64 x0) ∧ V.cell? (bd.add j) = some (.int .i64 ij)) (by kernel_rfl) ?_ (fun hHeld => ?_)
        · exact hS _ (by repeat (first | with_reducible assumption | with_reducible exact Ext.refl _ | with_reducible apply Ext.alloc | with_reducible apply Ext.drew | with_reducible apply Ext.drewN))
        refine' wpAnyH_take (i := 0) (v := _) ?hi0 (by kernel_rfl) (by kernel_rfl) (by kernel_rfl) ?hQ0 ?hy0 (by assumption) ?_
        case hi0 => (simp only [List.getElem?_toArray, List.getElem?_cons_zero]; rfl)
        case hy0 => refine Or.inl ⟨by rfl, ?_⟩; intro w hSw; (try dsimp only at hSw); go_simp <;> with_reducible rfl
        case hQ0 => exact fun _ _ _ h => h
        try simp only [Act.put, List.setIfInBounds_toArray, List.set_cons_zero, List.set_cons_succ]
        refine' wpAnyH_take (i := 1) (v := _) ?hi1 (by kernel_rfl) (by kernel_rfl) (by kernel_rfl) ?hQ1 ?hy1 (by assumption) ?_
        case hi1 => (simp only [List.getElem?_toArray, List.getElem?_cons_succ, List.getElem?_cons_zero]; rfl)
        case hy1 => refine Or.inl ⟨by rfl, ?_⟩; intro w hSw; (try dsimp only at hSw); go_simp <;> with_reducible rfl
        case hQ1 => exact fun _ _ _ h => h
        try simp only [Act.put, List.setIfInBounds_toArray, List.set_cons_zero, List.set_cons_succ]
        refine' wpAnyH_take (i := 2) (v := _) ?hi2 (by kernel_rfl) (by kernel_rfl) (by kernel_rfl) ?hQ2 ?hy2 (by assumption) ?_
        case hi2 => (simp only [List.getElem?_toArray, List.getElem?_cons_succ, List.getElem?_cons_zero]; rfl)
        case hy2 => refine Or.inl ⟨by rfl, ?_⟩; intro w hSw; (try dsimp only at hSw); go_simp <;> with_reducible rfl
        case hQ2 => exact fun _ _ _ h => h
        try simp only [Act.put, List.setIfInBounds_toArray, List.set_cons_zero, List.set_cons_succ]
        refine' wpAnyH_take (i := 3) (v := _) ?hi3 (by kernel_rfl) (by kernel_rfl) (by kernel_rfl) ?hQ3 ?hy3 (by assumption) ?_
        case hi3 => (simp only [List.getElem?_toArray, List.getElem?_cons_succ, List.getElem?_cons_zero]; rfl)
        case hy3 => refine Or.inl ⟨by rfl, ?_⟩; intro w hSw; (try dsimp only at hSw); go_simp <;> with_reducible rfl
        case hQ3 => exact fun _ _ _ h => h
        try simp only [Act.put, List.setIfInBounds_toArray, List.set_cons_zero, List.set_cons_succ]
        refine' wpAnyH_take (i := 4) (v := _) ?hi4 (by kernel_rfl) (by kernel_rfl) (by kernel_rfl) ?hQ4 ?hy4 (by assumption) ?_
        case hi4 => (simp only [List.getElem?_toArray, List.getElem?_cons_succ, List.getElem?_cons_zero]; rfl)
        case hy4 => refine Or.inl ⟨by rfl, ?_⟩; intro w hSw; (try dsimp only at hSw); go_simp <;> with_reducible rfl
        case hQ4 => exact fun _ _ _ h => h
        try simp only [Act.put, List.setIfInBounds_toArray, List.set_cons_zero, List.set_cons_succ]
        refine' wpAnyH_take (i := 5) (v := _) ?hi5 (by kernel_rfl) (by kernel_rfl) (by kernel_rfl) ?hQ5 ?hy5 (by assumption) ?_
        case hi5 => (simp only [List.getElem?_toArray, List.getElem?_cons_succ, List.getElem?_cons_zero]; rfl)
        case hy5 => refine Or.inl ⟨by rfl, ?_⟩; intro w hSw; (try dsimp only at hSw); go_simp <;> with_reducible rfl
        case hQ5 => exact fun _ _ _ h => h
        try simp only [Act.put, List.setIfInBounds_toArray, List.set_cons_zero, List.set_cons_succ]
        refine' wpAnyH_take (i := 6) (v := _) ?hi6 (by kernel_rfl) (by kernel_rfl) (by kernel_rfl) ?hQ6 ?hy6 (by assumption) ?_
        case hi6 => (simp only [List.getElem?_toArray, List.getElem?_cons_succ, List.getElem?_cons_zero]; rfl)
        case hy6 => refine Or.inl ⟨by rfl, ?_⟩; intro w hSw; (try dsimp only at hSw); go_simp <;> with_reducible rfl
        case hQ6 => exact fun _ _ _ h => h
        try simp only [Act.put, List.setIfInBounds_toArray, List.set_cons_zero, List.set_cons_succ]
        refine' wpAnyH_take (i := 7) (v := _) ?hi7 (by kernel_rfl) (by kernel_rfl) (by kernel_rfl) ?hQ7 ?hy7 (by assumption) ?_
        case hi7 => (simp only [List.getElem?_toArray, List.getElem?_cons_succ, List.getElem?_cons_zero]; rfl)
        case hy7 => refine Or.inl ⟨by rfl, ?_⟩; intro w hSw; (try dsimp only at hSw); go_simp <;> with_reducible rfl
        case hQ7 => exact fun _ _ _ h => h
        try simp only [Act.put, List.setIfInBounds_toArray, List.set_cons_zero, List.set_cons_succ]
        refine' wpAnyH_take (i := 8) (v := _) ?hi8 (by kernel_rfl) (by kernel_rfl) (by kernel_rfl) ?hQ8 ?hy8 (by assumption) ?_
        case hi8 => (simp only [List.getElem?_toArray, List.getElem?_cons_succ, List.getElem?_cons_zero]; rfl)
        case hy8 => refine Or.inl ⟨by rfl, ?_⟩; intro w hSw; (try dsimp only at hSw); go_simp <;> with_reducible rfl
        case hQ8 => exact fun _ _ _ h => h
        try simp only [Act.put, List.setIfInBounds_toArray, List.set_cons_zero, List.set_cons_succ]
        refine' wpAnyH_take (i := 9) (v := _) ?hi9 (by kernel_rfl) (by kernel_rfl) (by kernel_rfl) ?hQ9 ?hy9 (by assumption) ?_
        case hi9 => (simp only [List.getElem?_toArray, List.getElem?_cons_succ, List.getElem?_cons_zero]; rfl)
        case hy9 => refine Or.inl ⟨by rfl, ?_⟩; intro w hSw; (try dsimp only at hSw); go_simp <;> with_reducible rfl
        case hQ9 => exact fun _ _ _ h => h
        try simp only [Act.put, List.setIfInBounds_toArray, List.set_cons_zero, List.set_cons_succ]
        refine wpAnyH_ready (rs := [10]) (by kernel_rfl) (by simp) ?_
        refine AllReadyH.cons rfl (fun KK hKK => ?_) ?_
        · go_simp
          go_at_call 33
          refine (sAt_any p q g ij A n c cs _ HG.out (by omega) (by omega) (by omega) (RdI.ext ha.rd (Ext.trans hEb (by repeat (first | with_reducible assumption | with_reducible exact Ext.refl _ | with_reducible apply Ext.alloc | with_reducible apply Ext.drew | with_reducible apply Ext.drewN)))) HLC.out (by omega) HCS.out).mono ?_
          rintro ek wk10 ⟨hek, hbk10⟩
          rw [HCV.out] at hek; subst hek
          have hxk10 := Ext.trans (w := Wb) (by repeat (first | with_reducible assumption | with_reducible exact Ext.refl _ | with_reducible apply Ext.alloc | with_reducible apply Ext.drew | with_reducible apply Ext.drewN)) hbk10
          refine hKK.out _ _ ?_ (fun hHeld => ?_)
          · exact hS _ (by repeat (first | with_reducible assumption | with_reducible exact Ext.refl _ | with_reducible apply Ext.alloc | with_reducible apply Ext.drew | with_reducible apply Ext.drewN))
          clear hKK KK
          try simp only [Act.put, List.setIfInBounds_toArray, List.set_cons_zero, List.set_cons_succ]
          refine' wpAnyH_take (i := 11) (v := _) ?hi11 (by kernel_rfl) (by kernel_rfl) (by kernel_rfl) ?hQ11 ?hy11 (by assumption) ?_
          case hi11 => (simp only [List.getElem?_toArray, List.getElem?_cons_succ, List.getElem?_cons_zero]; rfl)
          case hy11 => refine Or.inl ⟨by rfl, ?_⟩; intro w hSw; (try dsimp only at hSw); go_simp <;> with_reducible rfl
          case hQ11 => exact fun _ _ _ h => h
          try simp only [Act.put, List.setIfInBounds_toArray, List.set_cons_zero, List.set_cons_succ]
          refine' wpAnyH_take (i := 12) (v := _) ?hi12 (by kernel_rfl) (by kernel_rfl) (by kernel_rfl) ?hQ12 ?hy12 (by assumption) ?_
          case hi12 => (simp only [List.getElem?_toArray, List.getElem?_cons_succ, List.getElem?_cons_zero]; rfl)
          case hy12 => refine Or.inl ⟨by rfl, ?_⟩; intro w hSw; (try dsimp only at hSw); go_simp <;> with_reducible rfl
          case hQ12 => exact fun _ _ _ h => h
          try simp only [Act.put, List.setIfInBounds_toArray, List.set_cons_zero, List.set_cons_succ]
          refine' wpAnyH_take (i := 13) (v := _) ?hi13 (by kernel_rfl) (by kernel_rfl) (by kernel_rfl) ?hQ13 ?hy13 (by assumption) ?_
          case hi13 => (simp only [List.getElem?_toArray, List.getElem?_cons_succ, List.getElem?_cons_zero]; rfl)
          case hy13 => refine Or.inl ⟨by rfl, ?_⟩; intro w hSw; (try dsimp only at hSw); go_simp <;> with_reducible rfl
          case hQ13 => exact fun _ _ _ h => h
          try simp only [Act.put, List.setIfInBounds_toArray, List.set_cons_zero, List.set_cons_succ]
          refine' wpAnyH_take (i := 14) (v := _) ?hi14 (by kernel_rfl) (by kernel_rfl) (by kernel_rfl) ?hQ14 ?hy14 (by assumption) ?_
          case hi14 => (simp only [List.getElem?_toArray, List.getElem?_cons_succ, List.getElem?_cons_zero]; rfl)
          case hy14 => refine Or.inl ⟨by rfl, ?_⟩; intro w hSw; (try dsimp only at hSw); go_simp <;> with_reducible rfl
          case hQ14 => exact fun _ _ _ h => h
          try simp only [Act.put, List.setIfInBounds_toArray, List.set_cons_zero, List.set_cons_succ]
          refine wpAnyH_ready (rs := [15]) (by kernel_rfl) (by simp) ?_
          refine AllReadyH.cons rfl (fun KK hKK => ?_) ?_
          · go_simp
            go_at_call 34
            refine (sBad_any p q g _ n1 c1 dd.1 A2 m1 d1 dd.2 _ HGG.out (s1.ext (Ext.trans hxk10 (by repeat (first | with_reducible assumption | with_reducible exact Ext.refl _ | with_reducible apply Ext.alloc | with_reducible apply Ext.drew | with_reducible apply Ext.drewN)))) (s2.ext (Ext.trans hxk10 (by repeat (first | with_reducible assumption | with_reducible exact Ext.refl _ | with_reducible apply Ext.alloc | with_reducible apply Ext.drew | with_reducible apply Ext.drewN)))) hdf).mono ?_
            rintro ek wk15 ⟨K1, k9, kc, rfl, hO15, hbk15⟩
            rw [HBL.out] at hO15
            have hkl := hO15.len
            clear hO15
            have hxk15 := Ext.trans (w := Wb) (Ext.trans hxk10 (by repeat (first | with_reducible assumption | with_reducible exact Ext.refl _ | with_reducible apply Ext.alloc | with_reducible apply Ext.drew | with_reducible apply Ext.drewN))) hbk15
            refine hKK.out _ _ ?_ (fun hHeld => ?_)
            · exact hS _ (by repeat (first | with_reducible assumption | with_reducible exact Ext.refl _ | with_reducible apply Ext.alloc | with_reducible apply Ext.drew | with_reducible apply Ext.drewN))
            clear hKK KK
            try simp only [Act.put, List.setIfInBounds_toArray, List.set_cons_zero, List.set_cons_succ]
            refine' wpAnyH_take (i := 16) (v := _) ?hi16 (by kernel_rfl) (by kernel_rfl) (by kernel_rfl) ?hQ16 ?hy16 (by assumption) ?_
            case hi16 => (simp only [List.getElem?_toArray, List.getElem?_cons_succ, List.getElem?_cons_zero]; rfl)
            case hy16 => refine Or.inl ⟨by rfl, ?_⟩; intro w hSw; (try dsimp only at hSw); go_simp <;> with_reducible rfl
            case hQ16 => exact fun _ _ _ h => h
            try simp only [Act.put, List.setIfInBounds_toArray, List.set_cons_zero, List.set_cons_succ]
            refine' wpAnyH_take (i := 17) (v := _) ?hi17 (by kernel_rfl) (by kernel_rfl) (by kernel_rfl) ?hQ17 ?hy17 (by assumption) ?_
            case hi17 => (simp only [List.getElem?_toArray, List.getElem?_cons_succ, List.getElem?_cons_zero]; rfl)
            case hy17 => refine Or.inl ⟨by rfl, ?_⟩; intro w hSw; (try dsimp only at hSw); go_simp <;> with_reducible rfl
            case hQ17 => exact fun _ _ _ h => h
            try simp only [Act.put, List.setIfInBounds_toArray, List.set_cons_zero, List.set_cons_succ]
            refine' wpAnyH_take (i := 18) (v := _) ?hi18 (by kernel_rfl) (by kernel_rfl) (by kernel_rfl) ?hQ18 ?hy18 (by assumption) ?_
            case hi18 => (simp only [List.getElem?_toArray, List.getElem?_cons_succ, List.getElem?_cons_zero]; rfl)
            case hy18 => refine Or.inl ⟨by rfl, ?_⟩; intro w hSw; (try dsimp only at hSw); go_simp <;> with_reducible rfl
            case hQ18 => exact fun _ _ _ h => h
            try simp only [Act.put, List.setIfInBounds_toArray, List.set_cons_zero, List.set_cons_succ]
            refine' wpAnyH_take (i := 19) (v := _) ?hi19 (by kernel_rfl) (by kernel_rfl) (by kernel_rfl) ?hQ19 ?hy19 (by assumption) ?_
            case hi19 => (simp only [List.getElem?_toArray, List.getElem?_cons_succ, List.getElem?_cons_zero]; rfl)
            case hy19 => refine Or.inl ⟨by rfl, ?_⟩; intro w hSw; (try dsimp only at hSw); go_simp <;> with_reducible rfl
            case hQ19 => exact fun _ _ _ h => h
            try simp only [Act.put, List.setIfInBounds_toArray, List.set_cons_zero, List.set_cons_succ]
            refine wpAnyH_done (by kernel_rfl) ?_ _
            go_wp2
            go_meet
            exact ⟨by rw [← HR0.out, h7, hkl, beq_nat0, Bool.true_and], hxk15⟩
          exact AllReadyH.nil
        exact AllReadyH.nil
      case' rest =>
      obtain ⟨rfl, hbc⟩ := hcut
      have E4 := E3.trans hbc
      replace hU := hU.ext hbc
      replace hX := hX.ext hbc
      replace hY := hY.ext hbc
      replace B3 := B3.ext hbc
      clear hS hx0 hi0 s1 s2 hbc hEb E3
      generalize wc = Wd at *
      go_upto_region 9 with (fail)
      go_cut [102] from 87 to 101 (fun b wx => b = .bool (!Zv) ∧ Ext Wd wx)
      case first =>
        cases R0
        case false =>
          have hS : ∀ V, Ext Wd V → V.cell? ⟨gd, 0, none⟩ = some (.slice (some ac) n1 c1) ∧ V.cell? ⟨gd, 1, none⟩ = some (.slice A2 m1 d1) := fun V hV => by
            have a3 := (B3.ext hV).cells
            exact ⟨a3 0, a3 1⟩
          refine wp_region_held_drew (S := fun V => V.cell? ⟨gd, 0, none⟩ = some (.slice (some ac) n1 c1) ∧ V.cell? ⟨gd, 1, none⟩ = some (.slice A2 m1 d1)) (by kernel_rfl) ?_ (fun hHeld => ?_)
          · exact hS _ (by repeat (first | with_reducible assumption | with_reducible exact Ext.refl _ | with_reducible apply Ext.alloc | with_reducible apply Ext.drew | with_reducible apply Ext.drewN))
          refine' wpAnyH_take (i := 0) (v := _) ?hi0 (by kernel_rfl) (by kernel_rfl) (by kernel_rfl) ?hQ0 ?hy0 (by assumption) ?_
          case hi0 => (simp only [List.getElem?_toArray, List.getElem?_cons_zero]; rfl)
          case hy0 => refine Or.inl ⟨by rfl, ?_⟩; intro w hSw; (try dsimp only at hSw); go_simp <;> with_reducible rfl
          case hQ0 => exact fun _ _ _ h => h
          try simp only [Act.put, List.setIfInBounds_toArray, List.set_cons_zero, List.set_cons_succ]
          refine' wpAnyH_take (i := 1) (v := _) ?hi1 (by kernel_rfl) (by kernel_rfl) (by kernel_rfl) ?hQ1 ?hy1 (by assumption) ?_
          case hi1 => (simp only [List.getElem?_toArray, List.getElem?_cons_succ, List.getElem?_cons_zero]; rfl)
          case hy1 => refine Or.inl ⟨by rfl, ?_⟩; intro w hSw; (try dsimp only at hSw); go_simp <;> with_reducible rfl
          case hQ1 => exact fun _ _ _ h => h
          try simp only [Act.put, List.setIfInBounds_toArray, List.set_cons_zero, List.set_cons_succ]
          refine' wpAnyH_take (i := 2) (v := _) ?hi2 (by kernel_rfl) (by kernel_rfl) (by kernel_rfl) ?hQ2 ?hy2 (by assumption) ?_
          case hi2 => (simp only [List.getElem?_toArray, List.getElem?_cons_succ, List.getElem?_cons_zero]; rfl)
          case hy2 => refine Or.inl ⟨by rfl, ?_⟩; intro w hSw; (try dsimp only at hSw); go_simp <;> with_reducible rfl
          case hQ2 => exact fun _ _ _ h => h
          try simp only [Act.put, List.setIfInBounds_toArray, List.set_cons_zero, List.set_cons_succ]
          refine' wpAnyH_take (i := 3) (v := undef) ?hi3 (by kernel_rfl) (by kernel_rfl) (by kernel_rfl) ?hQ3 ?hy3 (by assumption) ?_
          case hi3 => (simp only [List.getElem?_toArray, List.getElem?_cons_succ, List.getElem?_cons_zero]; rfl)
          case hQ3 => exact fun _ _ _ h => h
          case hy3 => exact Or.inr ⟨by rfl, rfl⟩
          try simp only [Act.put, List.setIfInBounds_toArray, List.set_cons_zero, List.set_cons_succ]
          refine' wpAnyH_take (i := 4) (v := undef) ?hi4 (by kernel_rfl) (by kernel_rfl) (by kernel_rfl) ?hQ4 ?hy4 (by assumption) ?_
          case hi4 => (simp only [List.getElem?_toArray, List.getElem?_cons_succ, List.getElem?_cons_zero]; rfl)
          case hQ4 => exact fun _ _ _ h => h
          case hy4 => exact Or.inr ⟨by rfl, rfl⟩
          try simp only [Act.put, List.setIfInBounds_toArray, List.set_cons_zero, List.set_cons_succ]
          refine' wpAnyH_take (i := 5) (v := undef) ?hi5 (by kernel_rfl) (by kernel_rfl) (by kernel_rfl) ?hQ5 ?hy5 (by assumption) ?_
          case hi5 => (simp only [List.getElem?_toArray, List.getElem?_cons_succ, List.getElem?_cons_zero]; rfl)
          case hQ5 => exact fun _ _ _ h => h
          case hy5 => exact Or.inr ⟨by rfl, rfl⟩
          try simp only [Act.put, List.setIfInBounds_toArray, List.set_cons_zero, List.set_cons_succ]
          refine' wpAnyH_take (i := 6) (v := undef) ?hi6 (by kernel_rfl) (by kernel_rfl) (by kernel_rfl) ?hQ6 ?hy6 (by assumption) ?_
          case hi6 => (simp only [List.getElem?_toArray, List.getElem?_cons_succ, List.getElem?_cons_zero]; rfl)
          case hQ6 => exact fun _ _ _ h => h
          case hy6 => exact Or.inr ⟨by rfl, rfl⟩
          try simp only [Act.put, List.setIfInBounds_toArray, List.set_cons_zero, List.set_cons_succ]
          refine' wpAnyH_take (i := 7) (v := undef) ?hi7 (by kernel_rfl) (by kernel_rfl) (by kernel_rfl) ?hQ7 ?hy7 (by assumption) ?_
          case hi7 => (simp only [List.getElem?_toArray, List.getElem?_cons_succ, List.getElem?_cons_zero]; rfl)
          case hQ7 => exact fun _ _ _ h => h
          case hy7 => exact Or.inr ⟨by rfl, rfl⟩
          try simp only [Act.put, List.setIfInBounds_toArray, List.set_cons_zero, List.set_cons_succ]
          refine' wpAnyH_take (i := 8) (v := undef) ?hi8 (by kernel_rfl) (by kernel_rfl) (by kernel_rfl) ?hQ8 ?hy8 (by assumption) ?_
          case hi8 => (simp only [List.getElem?_toArray, List.getElem?_cons_succ, List.getElem?_cons_zero]; rfl)
          case hQ8 => exact fun _ _ _ h => h
          case hy8 => exact Or.inr ⟨by rfl, rfl⟩
          try simp only [Act.put, List.setIfInBounds_toArray, List.set_cons_zero, List.set_cons_succ]
          refine' wpAnyH_take (i := 9) (v := undef) ?hi9 (by kernel_rfl) (by kernel_rfl) (by kernel_rfl) ?hQ9 ?hy9 (by assumption) ?_
          case hi9 => (simp only [List.getElem?_toArray, List.getElem?_cons_succ, List.getElem?_cons_zero]; rfl)
          case hQ9 => exact fun _ _ _ h => h
          case hy9 => exact Or.inr ⟨by rfl, rfl⟩
          try simp only [Act.put, List.setIfInBounds_toArray, List.set_cons_zero, List.set_cons_succ]
          refine' wpAnyH_take (i := 10) (v := undef) ?hi10 (by kernel_rfl) (by kernel_rfl) (by kernel_rfl) ?hQ10 ?hy10 (by assumption) ?_
          case hi10 => (simp only [List.getElem?_toArray, List.getElem?_cons_succ, List.getElem?_cons_zero]; rfl)
          case hQ10 => exact fun _ _ _ h => h
          case hy10 => exact Or.inr ⟨by rfl, rfl⟩
          try simp only [Act.put, List.setIfInBounds_toArray, List.set_cons_zero, List.set_cons_succ]
          refine' wpAnyH_take (i := 11) (v := undef) ?hi11 (by kernel_rfl) (by kernel_rfl) (by kernel_rfl) ?hQ11 ?hy11 (by assumption) ?_
          case hi11 => (simp only [List.getElem?_toArray, List.getElem?_cons_succ, List.getElem?_cons_zero]; rfl)
          case hQ11 => exact fun _ _ _ h => h
          case hy11 => exact Or.inr ⟨by rfl, rfl⟩
          try simp only [Act.put, List.setIfInBounds_toArray, List.set_cons_zero, List.set_cons_succ]
          refine' wpAnyH_take (i := 12) (v := undef) ?hi12 (by kernel_rfl) (by kernel_rfl) (by kernel_rfl) ?hQ12 ?hy12 (by assumption) ?_
          case hi12 => (simp only [List.getElem?_toArray, List.getElem?_cons_succ, List.getElem?_cons_zero]; rfl)
          case hQ12 => exact fun _ _ _ h => h
          case hy12 => exact Or.inr ⟨by rfl, rfl⟩
          try simp only [Act.put, List.setIfInBounds_toArray, List.set_cons_zero, List.set_cons_succ]
          refine' wpAnyH_take (i := 13) (v := undef) ?hi13 (by kernel_rfl) (by kernel_rfl) (by kernel_rfl) ?hQ13 ?hy13 (by assumption) ?_
          case hi13 => (simp only [List.getElem?_toArray, List.getElem?_cons_succ, List.getElem?_cons_zero]; rfl)
          case hQ13 => exact fun _ _ _ h => h
          case hy13 => exact Or.inr ⟨by rfl, rfl⟩
          try simp only [Act.put, List.setIfInBounds_toArray, List.set_cons_zero, List.set_cons_succ]
          refine' wpAnyH_take (i := 14) (v := undef) ?hi14 (by kernel_rfl) (by kernel_rfl) (by kernel_rfl) ?hQ14 ?hy14 (by assumption) ?_
          case hi14 => (simp only [List.getElem?_toArray, List.getElem?_cons_succ, List.getElem?_cons_zero]; rfl)
          case hQ14 => exact fun _ _ _ h => h
          case hy14 => exact Or.inr ⟨by rfl, rfl⟩
          try simp only [Act.put, List.setIfInBounds_toArray, List.set_cons_zero, List.set_cons_succ]
          refine' wpAnyH_take (i := 15) (v := _) ?hi15 (by kernel_rfl) (by kernel_rfl) (by kernel_rfl) ?hQ15 ?hy15 (by assumption) ?_
          case hi15 => (simp only [List.getElem?_toArray, List.getElem?_cons_succ, List.getElem?_cons_zero]; rfl)
          case hy15 => refine Or.inl ⟨by rfl, ?_⟩; intro w hSw; (try dsimp only at hSw); go_simp <;> with_reducible rfl
          case hQ15 => exact fun _ _ _ h => h
          try simp only [Act.put, List.setIfInBounds_toArray, List.set_cons_zero, List.set_cons_succ]
          refine wpAnyH_done (by kernel_rfl) ?_ _
          go_wp2
          go_meet
          exact ⟨by rw [← HZ.out]; rfl, (by repeat (first | with_reducible assumption | with_reducible exact Ext.refl _ | with_reducible apply Ext.alloc | with_reducible apply Ext.drew | with_reducible apply Ext.drewN))⟩
        have HUL := Lib.hid hY.len
        cases L1 with
        | nil =>
          obtain rfl : u = 0 := by have := HUL.out; simpa using this.symm
          have hS : ∀ V, Ext Wd V → V.cell? ⟨gd, 0, none⟩ = some (.slice (some ac) n1 c1) ∧ V.cell? ⟨gd, 1, none⟩ = some (.slice A2 m1 d1) := fun V hV => by
            have a3 := (B3.ext hV).cells
            exact ⟨a3 0, a3 1⟩
          refine wp_region_held_drew (S := fun V => V.cell? ⟨gd, 0, none⟩ = some (.slice (some ac) n1 c1) ∧ V.cell? ⟨gd, 1, none⟩ = some (.slice A2 m1 d1)) (by kernel_rfl) ?_ (fun hHeld => ?_)
          · exact hS _ (by repeat (first | with_reducible assumption | with_reducible exact Ext.refl _ | with_reducible apply Ext.alloc | with_reducible apply Ext.drew | with_reducible apply Ext.drewN))
          refine' wpAnyH_take (i := 0) (v := _) ?hi0 (by kernel_rfl) (by kernel_rfl) (by kernel_rfl) ?hQ0 ?hy0 (by assumption) ?_
          case hi0 => (simp only [List.getElem?_toArray, List.getElem?_cons_zero]; rfl)
          case hy0 => refine Or.inl ⟨by rfl, ?_⟩; intro w hSw; (try dsimp only at hSw); go_simp <;> with_reducible rfl
          case hQ0 => exact fun _ _ _ h => h
          try simp only [Act.put, List.setIfInBounds_toArray, List.set_cons_zero, List.set_cons_succ]
          refine' wpAnyH_take (i := 1) (v := _) ?hi1 (by kernel_rfl) (by kernel_rfl) (by kernel_rfl) ?hQ1 ?hy1 (by assumption) ?_
          case hi1 => (simp only [List.getElem?_toArray, List.getElem?_cons_succ, List.getElem?_cons_zero]; rfl)
          case hy1 => refine Or.inl ⟨by rfl, ?_⟩; intro w hSw; (try dsimp only at hSw); go_simp <;> with_reducible rfl
          case hQ1 => exact fun _ _ _ h => h
          try simp only [Act.put, List.setIfInBounds_toArray, List.set_cons_zero, List.set_cons_succ]
          refine' wpAnyH_take (i := 2) (v := _) ?hi2 (by kernel_rfl) (by kernel_rfl) (by kernel_rfl) ?hQ2 ?hy2 (by assumption) ?_
          case hi2 => (simp only [List.getElem?_toArray, List.getElem?_cons_succ, List.getElem?_cons_zero]; rfl)
          case hy2 => refine Or.inl ⟨by rfl, ?_⟩; intro w hSw; (try dsimp only at hSw); go_simp <;> with_reducible rfl
          case hQ2 => exact fun _ _ _ h => h
          try simp only [Act.put, List.setIfInBounds_toArray, List.set_cons_zero, List.set_cons_succ]
          refine' wpAnyH_take (i := 3) (v := _) ?hi3 (by kernel_rfl) (by kernel_rfl) (by kernel_rfl) ?hQ3 ?hy3 (by assumption) ?_
          case hi3 => (simp only [List.getElem?_toArray, List.getElem?_cons_succ, List.getElem?_cons_zero]; rfl)
          case hy3 => refine Or.inl ⟨by rfl, ?_⟩; intro w hSw; (try dsimp only at hSw); go_simp <;> with_reducible rfl
          case hQ3 => exact fun _ _ _ h => h
          try simp only [Act.put, List.setIfInBounds_toArray, List.set_cons_zero, List.set_cons_succ]
          refine' wpAnyH_take (i := 4) (v := _) ?hi4 (by kernel_rfl) (by kernel_rfl) (by kernel_rfl) ?hQ4 ?hy4 (by assumption) ?_
          case hi4 => (simp only [List.getElem?_toArray, List.getElem?_cons_succ, List.getElem?_cons_zero]; rfl)
          case hy4 => refine Or.inl ⟨by rfl, ?_⟩; intro w hSw; (try dsimp only at hSw); go_simp <;> with_reducible rfl
          case hQ4 => exact fun _ _ _ h => h
          try simp only [Act.put, List.setIfInBounds_toArray, List.set_cons_zero, List.set_cons_succ]
          refine' wpAnyH_take (i := 5) (v := _) ?hi5 (by kernel_rfl) (by kernel_rfl) (by kernel_rfl) ?hQ5 ?hy5 (by assumption) ?_
          case hi5 => (simp only [List.getElem?_toArray, List.getElem?_cons_succ, List.getElem?_cons_zero]; rfl)
          case hy5 => refine Or.inl ⟨by rfl, ?_⟩; intro w hSw; (try dsimp only at hSw); go_simp <;> with_reducible rfl
          case hQ5 => exact fun _ _ _ h => h
          try simp only [Act.put, List.setIfInBounds_toArray, List.set_cons_zero, List.set_cons_succ]
          refine' wpAnyH_take (i := 6) (v := _) ?hi6 (by kernel_rfl) (by kernel_rfl) (by kernel_rfl) ?hQ6 ?hy6 (by assumption) ?_
          case hi6 => (simp only [List.getElem?_toArray, List.getElem?_cons_succ, List.getElem?_cons_zero]; rfl)
          case hy6 => refine Or.inl ⟨by rfl, ?_⟩; intro w hSw; (try dsimp only at hSw); go_simp <;> with_reducible rfl
          case hQ6 => exact fun _ _ _ h => h
          try simp only [Act.put, List.setIfInBounds_toArray, List.set_cons_zero, List.set_cons_succ]
          refine' wpAnyH_take (i := 7) (v := undef) ?hi7 (by kernel_rfl) (by kernel_rfl) (by kernel_rfl) ?hQ7 ?hy7 (by assumption) ?_
          case hi7 => (simp only [List.getElem?_toArray, List.getElem?_cons_succ, List.getElem?_cons_zero]; rfl)
          case hQ7 => exact fun _ _ _ h => h
          case hy7 => exact Or.inr ⟨by rfl, rfl⟩
          try simp only [Act.put, List.setIfInBounds_toArray, List.set_cons_zero, List.set_cons_succ]
          refine' wpAnyH_take (i := 8) (v := undef) ?hi8 (by kernel_rfl) (by kernel_rfl) (by kernel_rfl) ?hQ8 ?hy8 (by assumption) ?_
          case hi8 => (simp only [List.getElem?_toArray, List.getElem?_cons_succ, List.getElem?_cons_zero]; rfl)
          case hQ8 => exact fun _ _ _ h => h
          case hy8 => exact Or.inr ⟨by rfl, rfl⟩
          try simp only [Act.put, List.setIfInBounds_toArray, List.set_cons_zero, List.set_cons_succ]
          refine' wpAnyH_take (i := 9) (v := undef) ?hi9 (by kernel_rfl) (by kernel_rfl) (by kernel_rfl) ?hQ9 ?hy9 (by assumption) ?_
          case hi9 => (simp only [List.getElem?_toArray, List.getElem?_cons_succ, List.getElem?_cons_zero]; rfl)
          case hQ9 => exact fun _ _ _ h => h
          case hy9 => exact Or.inr ⟨by rfl, rfl⟩
          try simp only [Act.put, List.setIfInBounds_toArray, List.set_cons_zero, List.set_cons_succ]
          refine' wpAnyH_take (i := 10) (v := undef) ?hi10 (by kernel_rfl) (by kernel_rfl) (by kernel_rfl) ?hQ10 ?hy10 (by assumption) ?_
          case hi10 => (simp only [List.getElem?_toArray, List.getElem?_cons_succ, List.getElem?_cons_zero]; rfl)
          case hQ10 => exact fun _ _ _ h => h
          case hy10 => exact Or.inr ⟨by rfl, rfl⟩
          try simp only [Act.put, List.setIfInBounds_toArray, List.set_cons_zero, List.set_cons_succ]
          refine' wpAnyH_take (i := 11) (v := undef) ?hi11 (by kernel_rfl) (by kernel_rfl) (by kernel_rfl) ?hQ11 ?hy11 (by assumption) ?_
          case hi11 => (simp only [List.getElem?_toArray, List.getElem?_cons_succ, List.getElem?_cons_zero]; rfl)
          case hQ11 => exact fun _ _ _ h => h
          case hy11 => exact Or.inr ⟨by rfl, rfl⟩
          try simp only [Act.put, List.setIfInBounds_toArray, List.set_cons_zero, List.set_cons_succ]
          refine' wpAnyH_take (i := 12) (v := undef) ?hi12 (by kernel_rfl) (by kernel_rfl) (by kernel_rfl) ?hQ12 ?hy12 (by assumption) ?_
          case hi12 => (simp only [List.getElem?_toArray, List.getElem?_cons_succ, List.getElem?_cons_zero]; rfl)
          case hQ12 => exact fun _ _ _ h => h
          case hy12 => exact Or.inr ⟨by rfl, rfl⟩
          try simp only [Act.put, List.setIfInBounds_toArray, List.set_cons_zero, List.set_cons_succ]
          refine' wpAnyH_take (i := 13) (v := undef) ?hi13 (by kernel_rfl) (by kernel_rfl) (by kernel_rfl) ?hQ13 ?hy13 (by assumption) ?_
          case hi13 => (simp only [List.getElem?_toArray, List.getElem?_cons_succ, List.getElem?_cons_zero]; rfl)
          case hQ13 => exact fun _ _ _ h => h
          case hy13 => exact Or.inr ⟨by rfl, rfl⟩
          try simp only [Act.put, List.setIfInBounds_toArray, List.set_cons_zero, List.set_cons_succ]
          refine' wpAnyH_take (i := 14) (v := _) ?hi14 (by kernel_rfl) (by kernel_rfl) (by kernel_rfl) ?hQ14 ?hy14 (by assumption) ?_
          case hi14 => (simp only [List.getElem?_toArray, List.getElem?_cons_succ, List.getElem?_cons_zero]; rfl)
          case hy14 => refine Or.inl ⟨by rfl, ?_⟩; intro w hSw; (try dsimp only at hSw); go_simp <;> with_reducible rfl
          case hQ14 => exact fun _ _ _ h => h
          try simp only [Act.put, List.setIfInBounds_toArray, List.set_cons_zero, List.set_cons_succ]
          refine' wpAnyH_take (i := 15) (v := _) ?hi15 (by kernel_rfl) (by kernel_rfl) (by kernel_rfl) ?hQ15 ?hy15 (by assumption) ?_
          case hi15 => (simp only [List.getElem?_toArray, List.getElem?_cons_succ, List.getElem?_cons_zero]; rfl)
          case hy15 => refine Or.inl ⟨by rfl, ?_⟩; intro w hSw; (try dsimp only at hSw); go_simp <;> with_reducible rfl
          case hQ15 => exact fun _ _ _ h => h
          try simp only [Act.put, List.setIfInBounds_toArray, List.set_cons_zero, List.set_cons_succ]
          refine wpAnyH_done (by kernel_rfl) ?_ _
          go_wp2
          go_meet
          exact ⟨by rw [← HZ.out]; rfl, (by repeat (first | with_reducible assumption | with_reducible exact Ext.refl _ | with_reducible apply Ext.alloc | with_reducible apply Ext.drew | with_reducible apply Ext.drewN))⟩
        | cons k0 tl =>
          have hul := HUL.out
          simp only [List.map_cons, List.length_cons, List.length_map] at hul
          have hu0 : (0 : Int) < (u : Int) := by omega
          have hu3 : 0 < u := by omega
          have hrd := RowsRd.rd (hRR.ext E4) hU.rd
          obtain ⟨au, hUA, P1, p1, q1, P2, p2, q2, hf0, hg0, t1, t2⟩ := RdD.at_ (ds := (k0 :: tl).map fun k => ds.getD k ([], [])) hrd (k := 0) (by simp)
          subst hUA
          rw [show au.add (0 * 2) = au from rfl] at hf0 hg0
          have hkr := HL1.out k0 (List.mem_cons_self ..)
          have HSV : Hid ((decide (p1 = n1) && decide (p2 = m1)) = Zv) := by
            show _ = _
            rw [← HZ.out]
            show _ = (true && (false || rsS ds j k0))
            rw [Bool.true_and, Bool.false_or, HSJ.out k0]
            have e1 : (ds.getD k0 ([], [])).1.length = p1 := t1.len
            have e2 : (ds.getD k0 ([], [])).2.length = p2 := t2.len
            rw [e1, e2, hl1, hl2]
            simp only [eq_comm]
          have hp1 : p1 ≤ 100000 := by have := t1.len; have := t1.cap; have := (dlF HGG.out (HDV.out _ (List.getElem_mem (show k0 < ds.length by have := HLD.out; omega)))).c7; have e1 : (ds.getD k0 ([], [])).1.length = p1 := t1.len; rw [getD_at _ (show k0 < ds.length by have := HLD.out; omega)] at e1; omega
          have hp2 : p2 ≤ 100000 := by have := (dlF HGG.out (HDV.out _ (List.getElem_mem (show k0 < ds.length by have := HLD.out; omega)))).s7; have e1 : (ds.getD k0 ([], [])).2.length = p2 := t2.len; rw [getD_at _ (show k0 < ds.length by have := HLD.out; omega)] at e1; omega
          have hS : ∀ V, Ext Wd V → V.cell? ⟨gd, 0, none⟩ = some (.slice (some ac) n1 c1) ∧ V.cell? ⟨gd, 1, none⟩ = some (.slice A2 m1 d1) ∧ V.cell? au = some (.slice P1 p1 q1) ∧ V.cell? ⟨au.block, au.off + 1, none⟩ = some (.slice P2 p2 q2) := fun V hV => by
            have a3 := (B3.ext hV).cells
            exact ⟨a3 0, a3 1, hV.cell hf0, hV.cell hg0⟩
          refine wp_region_held_drew (S := fun V => V.cell? ⟨gd, 0, none⟩ = some (.slice (some ac) n1 c1) ∧ V.cell? ⟨gd, 1, none⟩ = some (.slice A2 m1 d1) ∧ V.cell? au = some (.slice P1 p1 q1) ∧ V.cell? ⟨au.block, au.off + 1, none⟩ = some (.slice P2 p2 q2)) (by kernel_rfl) ?_ (fun hHeld => ?_)
          · exact hS _ (by repeat (first | with_reducible assumption | with_reducible exact Ext.refl _ | with_reducible apply Ext.alloc | with_reducible apply Ext.drew | with_reducible apply Ext.drewN))
          refine' wpAnyH_take (i := 0) (v := _) ?hi0 (by kernel_rfl) (by kernel_rfl) (by kernel_rfl) ?hQ0 ?hy0 (by assumption) ?_
          case hi0 => (simp only [List.getElem?_toArray, List.getElem?_cons_zero]; rfl)
          case hy0 => refine Or.inl ⟨by rfl, ?_⟩; intro w hSw; (try dsimp only at hSw); go_simp <;> with_reducible rfl
          case hQ0 => exact fun _ _ _ h => h
          try simp only [Act.put, List.setIfInBounds_toArray, List.set_cons_zero, List.set_cons_succ]
          refine' wpAnyH_take (i := 1) (v := _) ?hi1 (by kernel_rfl) (by kernel_rfl) (by kernel_rfl) ?hQ1 ?hy1 (by assumption) ?_
          case hi1 => (simp only [List.getElem?_toArray, List.getElem?_cons_succ, List.getElem?_cons_zero]; rfl)
          case hy1 => refine Or.inl ⟨by rfl, ?_⟩; intro w hSw; (try dsimp only at hSw); go_simp <;> with_reducible rfl
          case hQ1 => exact fun _ _ _ h => h
          try simp only [Act.put, List.setIfInBounds_toArray, List.set_cons_zero, List.set_cons_succ]
          refine' wpAnyH_take (i := 2) (v := _) ?hi2 (by kernel_rfl) (by kernel_rfl) (by kernel_rfl) ?hQ2 ?hy2 (by assumption) ?_
          case hi2 => (simp only [List.getElem?_toArray, List.getElem?_cons_succ, List.getElem?_cons_zero]; rfl)
          case hy2 => refine Or.inl ⟨by rfl, ?_⟩; intro w hSw; (try dsimp only at hSw); go_simp <;> with_reducible rfl
          case hQ2 => exact fun _ _ _ h => h
          try simp only [Act.put, List.setIfInBounds_toArray, List.set_cons_zero, List.set_cons_succ]
          refine' wpAnyH_take (i := 3) (v := _) ?hi3 (by kernel_rfl) (by kernel_rfl) (by kernel_rfl) ?hQ3 ?hy3 (by assumption) ?_
          case hi3 => (simp only [List.getElem?_toArray, List.getElem?_cons_succ, List.getElem?_cons_zero]; rfl)
          case hy3 => refine Or.inl ⟨by rfl, ?_⟩; intro w hSw; (try dsimp only at hSw); go_simp <;> with_reducible rfl
          case hQ3 => exact fun _ _ _ h => h
          try simp only [Act.put, List.setIfInBounds_toArray, List.set_cons_zero, List.set_cons_succ]
          refine' wpAnyH_take (i := 4) (v := _) ?hi4 (by kernel_rfl) (by kernel_rfl) (by kernel_rfl) ?hQ4 ?hy4 (by assumption) ?_
          case hi4 => (simp only [List.getElem?_toArray, List.getElem?_cons_succ, List.getElem?_cons_zero]; rfl)
          case hy4 => refine Or.inl ⟨by rfl, ?_⟩; intro w hSw; (try dsimp only at hSw); go_simp <;> with_reducible rfl
          case hQ4 => exact fun _ _ _ h => h
          try simp only [Act.put, List.setIfInBounds_toArray, List.set_cons_zero, List.set_cons_succ]
          refine' wpAnyH_take (i := 5) (v := _) ?hi5 (by kernel_rfl) (by kernel_rfl) (by kernel_rfl) ?hQ5 ?hy5 (by assumption) ?_
          case hi5 => (simp only [List.getElem?_toArray, List.getElem?_cons_succ, List.getElem?_cons_zero]; rfl)
          case hy5 => refine Or.inl ⟨by rfl, ?_⟩; intro w hSw; (try dsimp only at hSw); go_simp <;> with_reducible rfl
          case hQ5 => exact fun _ _ _ h => h
          try simp only [Act.put, List.setIfInBounds_toArray, List.set_cons_zero, List.set_cons_succ]
          refine' wpAnyH_take (i := 6) (v := _) ?hi6 (by kernel_rfl) (by kernel_rfl) (by kernel_rfl) ?hQ6 ?hy6 (by assumption) ?_
          case hi6 => (simp only [List.getElem?_toArray, List.getElem?_cons_succ, List.getElem?_cons_zero]; rfl)
          case hy6 => refine Or.inl ⟨by rfl, ?_⟩; intro w hSw; (try dsimp only at hSw); go_simp <;> with_reducible rfl
          case hQ6 => exact fun _ _ _ h => h
          try simp only [Act.put, List.setIfInBounds_toArray, List.set_cons_zero, List.set_cons_succ]
          refine' wpAnyH_take (i := 7) (v := _) ?hi7 (by kernel_rfl) (by kernel_rfl) (by kernel_rfl) ?hQ7 ?hy7 (by assumption) ?_
          case hi7 => (simp only [List.getElem?_toArray, List.getElem?_cons_succ, List.getElem?_cons_zero]; rfl)
          case hy7 => refine Or.inl ⟨by rfl, ?_⟩; intro w hSw; (try dsimp only at hSw); go_simp <;> with_reducible rfl
          case hQ7 => exact fun _ _ _ h => h
          try simp only [Act.put, List.setIfInBounds_toArray, List.set_cons_zero, List.set_cons_succ]
          refine' wpAnyH_take (i := 8) (v := _) ?hi8 (by kernel_rfl) (by kernel_rfl) (by kernel_rfl) ?hQ8 ?hy8 (by assumption) ?_
          case hi8 => (simp only [List.getElem?_toArray, List.getElem?_cons_succ, List.getElem?_cons_zero]; rfl)
          case hy8 => refine Or.inl ⟨by rfl, ?_⟩; intro w hSw; (try dsimp only at hSw); go_simp <;> with_reducible rfl
          case hQ8 => exact fun _ _ _ h => h
          try simp only [Act.put, List.setIfInBounds_toArray, List.set_cons_zero, List.set_cons_succ]
          refine' wpAnyH_take (i := 9) (v := _) ?hi9 (by kernel_rfl) (by kernel_rfl) (by kernel_rfl) ?hQ9 ?hy9 (by assumption) ?_
          case hi9 => (simp only [List.getElem?_toArray, List.getElem?_cons_succ, List.getElem?_cons_zero]; rfl)
          case hy9 => refine Or.inl ⟨by rfl, ?_⟩; intro w hSw; (try dsimp only at hSw); go_simp <;> with_reducible rfl
          case hQ9 => exact fun _ _ _ h => h
          try simp only [Act.put, List.setIfInBounds_toArray, List.set_cons_zero, List.set_cons_succ]
          refine' wpAnyH_take (i := 11) (v := _) ?hi11 (by kernel_rfl) (by kernel_rfl) (by kernel_rfl) ?hQ11 ?hy11 (by assumption) ?_
          case hi11 => (simp only [List.getElem?_toArray, List.getElem?_cons_succ, List.getElem?_cons_zero]; rfl)
          case hy11 => refine Or.inl ⟨by rfl, ?_⟩; intro w hSw; (try dsimp only at hSw); go_simp <;> with_reducible rfl
          case hQ11 => exact fun _ _ _ h => h
          try simp only [Act.put, List.setIfInBounds_toArray, List.set_cons_zero, List.set_cons_succ]
          refine wpAnyH_ready (rs := [10]) (by kernel_rfl) (by simp) ?_
          refine AllReadyH.cons rfl (fun KK hKK => ?_) ?_
          · go_simp
            go_at_call 36
            refine (rShared_any P1 p1 q1 P2 p2 q2 _ _ _ (t1.ext (by repeat (first | with_reducible assumption | with_reducible exact Ext.refl _ | with_reducible apply Ext.alloc | with_reducible apply Ext.drew | with_reducible apply Ext.drewN))) (t2.ext (by repeat (first | with_reducible assumption | with_reducible exact Ext.refl _ | with_reducible apply Ext.alloc | with_reducible apply Ext.drew | with_reducible apply Ext.drewN))) hp1 hp2).mono ?_
            rintro ek wk10 ⟨M1, e1, M2, e2, rfl, -, hbk10⟩
            have hxk10 := Ext.trans (w := Wd) (by repeat (first | with_reducible assumption | with_reducible exact Ext.refl _ | with_reducible apply Ext.alloc | with_reducible apply Ext.drew | with_reducible apply Ext.drewN)) hbk10
            refine hKK.out _ _ ?_ (fun hHeld => ?_)
            · exact hS _ (by repeat (first | with_reducible assumption | with_reducible exact Ext.refl _ | with_reducible apply Ext.alloc | with_reducible apply Ext.drew | with_reducible apply Ext.drewN))
            clear hKK KK
            try simp only [Act.put, List.setIfInBounds_toArray, List.set_cons_zero, List.set_cons_succ]
            refine wpAnyH_ready (rs := [12]) (by kernel_rfl) (by simp) ?_
            refine AllReadyH.cons rfl (fun KK hKK => ?_) ?_
            · go_simp
              go_at_call 35
              refine (rAlike_any M1 p1 e1 M2 p2 e2 (some ac) n1 c1 A2 m1 d1 _).mono ?_
              rintro ek wk12 ⟨hek, hbk12⟩
              rw [HSV.out] at hek; subst hek
              have hxk12 := Ext.trans (w := Wd) (Ext.trans hxk10 (by repeat (first | with_reducible assumption | with_reducible exact Ext.refl _ | with_reducible apply Ext.alloc | with_reducible apply Ext.drew | with_reducible apply Ext.drewN))) hbk12
              refine hKK.out _ _ ?_ (fun hHeld => ?_)
              · exact hS _ (by repeat (first | with_reducible assumption | with_reducible exact Ext.refl _ | with_reducible apply Ext.alloc | with_reducible apply Ext.drew | with_reducible apply Ext.drewN))
              clear hKK KK
              try simp only [Act.put, List.setIfInBounds_toArray, List.set_cons_zero, List.set_cons_succ]
              refine' wpAnyH_take (i := 13) (v := _) ?hi13 (by kernel_rfl) (by kernel_rfl) (by kernel_rfl) ?hQ13 ?hy13 (by assumption) ?_
              case hi13 => (simp only [List.getElem?_toArray, List.getElem?_cons_succ, List.getElem?_cons_zero]; rfl)
              case hy13 => refine Or.inl ⟨by rfl, ?_⟩; intro w hSw; (try dsimp only at hSw); go_simp <;> with_reducible rfl
              case hQ13 => exact fun _ _ _ h => h
              try simp only [Act.put, List.setIfInBounds_toArray, List.set_cons_zero, List.set_cons_succ]
              refine' wpAnyH_take (i := 14) (v := _) ?hi14 (by kernel_rfl) (by kernel_rfl) (by kernel_rfl) ?hQ14 ?hy14 (by assumption) ?_
              case hi14 => (simp only [List.getElem?_toArray, List.getElem?_cons_succ, List.getElem?_cons_zero]; rfl)
              case hy14 => refine Or.inl ⟨by rfl, ?_⟩; intro w hSw; (try dsimp only at hSw); go_simp <;> with_reducible rfl
              case hQ14 => exact fun _ _ _ h => h
              try simp only [Act.put, List.setIfInBounds_toArray, List.set_cons_zero, List.set_cons_succ]
              refine' wpAnyH_take (i := 15) (v := _) ?hi15 (by kernel_rfl) (by kernel_rfl) (by kernel_rfl) ?hQ15 ?hy15 (by assumption) ?_
              case hi15 => (simp only [List.getElem?_toArray, List.getElem?_cons_succ, List.getElem?_cons_zero]; rfl)
              case hy15 => refine Or.inl ⟨by rfl, ?_⟩; intro w hSw; (try dsimp only at hSw); go_simp <;> with_reducible rfl
              case hQ15 => exact fun _ _ _ h => h
              try simp only [Act.put, List.setIfInBounds_toArray, List.set_cons_zero, List.set_cons_succ]
              refine wpAnyH_done (by kernel_rfl) ?_ _
              go_wp2
              go_meet
              exact ⟨by simp, hxk12⟩
            exact AllReadyH.nil
          exact AllReadyH.nil
      case' rest =>
      obtain ⟨rfl, hbc⟩ := hcut
      replace E4 := E4.trans hbc
      replace hU := hU.ext hbc
      replace hX := hX.ext hbc
      replace hY := hY.ext hbc
      replace B3 := B3.ext hbc
      clear hbc
      generalize wc = We at *
      have hsz := E4.size
      have hnx9 := HNX.out
      cases Zv
      case false =>
        rw [if_neg (by decide)] at hnx9
        have HX1 : Hid ((rsF (rsR p q g cs ixs ds) (rsS ds) (j + 1)) = (L1, L2 ++ [j])) := hnx9
        clear hnx9
        go_wp2_with (at_builtin; refine wpList_app1F intSl rfl _ _ rfl hX rfl rfl rfl (by omega) hsz ?_; intro X2 d2 w2 hX2 hon hli)
        have hU2 := hU.only hon (apart_typesW hU hX.w (by decide))
        have hY2 := hY.only hon hap
        have hap2 : Apart (fpI Y) (fpI X2) := (hap.symm.app hY.low hli).symm
        have E5 := E4.only hon hX.high
        rw [castL_app] at hX2
        clear hU hX hY hap E4 hon hli hsz B3
        go_wp2
        go_roundw
        case rel => exact ⟨j + 1, U, u, uc, Y, yc, X2, x + 1, d2, rs, by omega, by go_num, rfl, rfl, rfl, by omega, by omega, hU2, by rw [HX1.out]; exact hRR, by rw [HX1.out]; exact hY2, by rw [HX1.out]; exact hX2, hap2, E5⟩
        case measure => first | (simp [intOf]; done) | (simp [intOf]; omega)
      rw [if_pos rfl] at hnx9
      have HX1 : Hid ((rsF (rsR p q g cs ixs ds) (rsS ds) (j + 1)) = (L1 ++ [j], L2)) := hnx9
      clear hnx9
      have CC3 := B3.cells
      go_upto_region 12 with (at_builtin; refine wpList_app1D dealSl rfl _ _ rfl hU rfl rfl rfl rfl (by omega) hsz ?_; intro U2 u2 w6 hU2 hon1)
      have E6 := E4.only hon1 hU.high
      have hi6 := E6.cell hi00
      have hX6 := hX.only hon1 (apart_typesW hX.w hU (by decide))
      have hY6 := hY.only hon1 (apart_typesW hY.w hU (by decide))
      have hsz6 := E6.size
      clear CC3 B3 hU hX hY E4 hon1 hsz
      go_wp2_with (at_builtin; refine wpList_app1F intSl rfl _ _ rfl hY6 rfl rfl rfl (by omega) hsz6 ?_; intro Y2 y2 w7 hY7 hon2 hli2)
      have E7 := E6.only hon2 hY6.high
      have hU7 := hU2.only hon2 (apart_typesW hU2 hY6.w (by decide))
      have hX7 := hX6.only hon2 hap.symm
      have hap7 : Apart (fpI Y2) (fpI X) := hap.app hX6.low hli2
      have hR7 : RowsRd w0 (rs ++ [(some ac, n1, c1), (A2, m1, d1)]) (flD ((L1 ++ [j]).map fun k => ds.getD k ([], []))) := by rw [List.map_append, flD_append, List.map_cons, List.map_nil, HDJ.out]; exact RowsRd.append hRR (RowsRd.two s10 s20)
      have hY8 : OwnI w7 w0.heap.size 3 Y2 (u + 1) y2 ((L1 ++ [j]).map fun k => ixs.getD k 0) := by rw [List.map_append, List.map_cons, List.map_nil, HIJ.out]; exact hY7
      clear hY7 hY6 hX6 hU2 hap E6 hon2 hli2 hsz6 hi6 hRR
      go_wp2
      go_roundw
      case rel => exact ⟨j + 1, U2, u + 1, u2, Y2, y2, X, x, xc, rs ++ [(some ac, n1, c1), (A2, m1, d1)], by omega, by go_num, rfl, rfl, rfl, by omega, by omega, by simpa [rowV] using hU7, by rw [HX1.out]; exact hR7, by rw [HX1.out]; exact hY8, by rw [HX1.out]; exact hX7, hap7, E7⟩
      case measure => first | (simp [intOf]; done) | (simp [intOf]; omega)
    · obtain rfl : r = j := by omega
      have hrF : rsF (rsR p q g cs ixs ds) (rsS ds) r = rhF p q g cs ixs ds := by unfold rhF; rw [HLD.out]
      have hin := rsF_in (rsR p q g cs ixs ds) (rsS ds) r
      have hsh := rsF_shape (rsR p q g cs ixs ds) (rsS ds) r
      have hpw := rsF_pw (rsR p q g cs ixs ds) (rsS ds) r
      rw [hrF] at hRR hY hX hin hsh hpw
      rcases hF : rhF p q g cs ixs ds with ⟨F1, F2⟩
      rw [hF] at hRR hY hX hin hsh hpw
      have HF := Lib.hid hF
      have hul : F1.length = u := by have := hY.len; simpa using this
      have HUL := Lib.hid hul
      have hF1r : ∀ k ∈ F1, k < r := fun k hk => (hin.1 k hk).1
      have HFR := Lib.hid hF1r
      have HSHP : Hid (∀ k ∈ F1, k = F1.headD 0 ∨ rsS ds k (F1.headD 0) = true) := hsh
      have HPW : Hid (F1.Pairwise (· < ·)) := hpw
      replace E := E.trans E2
      replace B0 := B0.ext E2
      replace B1 := B1.ext E2
      clear hlt hrF hF hin hsh hF1r hpw
      by_cases hun : u < n
      · have hv : rhB p q g cs ixs ds = false := by
          unfold rhB; rw [HG5.out, HF.out, Bool.true_and]; exact decide_eq_false (by show ¬ (cs.length ≤ F1.length); rw [HLC.out, hul]; omega)
        have hvv : rhV p q g cs ixs ds = ([], []) := by unfold rhV; rw [hv]; rfl
        have hvo : rhO p q g cs ixs ds = [] := by unfold rhO; rw [hv]; rfl
        have HV := Lib.hid hv
        have HVV := Lib.hid hvv
        have HVO := Lib.hid hvo
        clear hv hvv hvo
        have hun' : (u : Int) < (n : Int) := by omega
        clear hul
        have BF := B1
        have FZ := BF.frozen
        have CN := BF.cells
        have CZ := ((BF.set_ 0 (.slice none 0 0)).set_ 1 (.slice none 0 0)).cells
        go_wp2
        refine bodyPost_ret (v := .tuple #[.agg #[.slice none 0 0, .slice none 0 0], .slice none 0 0, .bool false]) (by simp [results, Try.results6, CZ, go_sem]) rfl ⟨none, 0, 0, none, 0, 0, none, 0, 0, by rw [HV.out], by rw [HVV.out]; exact OwnK.nil _ _, by rw [HVO.out]; exact OwnI.nil _ _ _, by omega, fun b hb => by simp [fpI] at hb, E.only1 (by first | exact Nat.le_refl _ | omega | (simp; done) | (simp; omega)) (only_two _ _ _ _ _ _)⟩
      have hv : rhB p q g cs ixs ds = true := by
        unfold rhB; rw [HG5.out, HF.out, Bool.true_and]; exact decide_eq_true (by show cs.length ≤ F1.length; rw [HLC.out, hul]; omega)
      have hvo : rhO p q g cs ixs ds = castL F2 := by unfold rhO; rw [hv, HF.out]; rfl
      have HV := Lib.hid hv
      have HVO := Lib.hid hvo
      clear hv hvo hul
      have hun' : ¬ ((u : Int) < (n : Int)) := by omega
      have hucap := hY.cap
      have hnc : (n : Int) ≤ (yc : Int) := by omega
      have hncn : n ≤ yc := by omega
      obtain ⟨xs, hxs⟩ : ∃ xs, (F1.take n).map (fun k => ixs.getD k 0) = xs := ⟨_, rfl⟩
      have hyr := hY.rd.take n
      rw [← List.map_take, hxs] at hyr
      have hxl : xs.length = n := by rw [← hxs]; simp; have := HUL.out; omega
      have hxr : ∀ y ∈ xs, 0 ≤ y ∧ y ≤ q - 1 := fun y hy => by
        rw [← hxs] at hy
        obtain ⟨k, hk, rfl⟩ := List.mem_map.1 hy
        have hkr := HFR.out k (List.mem_of_mem_take hk)
        have hkm : k < ixs.length := by have := HLI.out; have := HRM.out; omega
        have h9 := HIX.out _ (List.getElem_mem hkm)
        rw [getD_at _ hkm]
        omega
      have hxn : xs.Nodup := by rw [← hxs]; exact xs_nodup HPW.out (fun k hk => by have := HFR.out k hk; have := HLI.out; have := HRM.out; omega) HDF.out
      have HXS : Hid (rhX p q g cs ixs ds = xs) := by show _ = _; unfold rhX; rw [HF.out, HLC.out]; exact hxs
      have HXR := Lib.hid hxr
      clear hxs hxr
      have hlb2 := lagL_bd hq2 xs 0 n
      generalize hlam : lagL q xs 0 n = lam at *
      have HLAM := Lib.hid hlam
      have HLB := Lib.hid hlb2
      clear hlam hlb2
      go_upto_region 17 with (fail)
      generalize wr = wa at *
      have hS : ∀ V, Ext wa V → V.cell? ⟨w.heap.size, 0, none⟩ = some (.int .i64 p) ∧ V.cell? ⟨w.heap.size, 1, none⟩ = some (.int .i64 q) ∧ V.cell? ⟨w.heap.size, 2, none⟩ = some (.int .i64 g) := fun V hV => by
        have a0 := (B0.ext hV).cells
        exact ⟨a0 0, a0 1, a0 2⟩
      go_cut [18] from 126 to 131 (fun b wx => ∃ LA lc, b = .slice LA n lc ∧ OwnI wx wa.heap.size 3 LA n lc lam ∧ Ext wa wx)
      case first =>
        refine wp_region_held_drew (S := fun V => V.cell? ⟨w.heap.size, 0, none⟩ = some (.int .i64 p) ∧ V.cell? ⟨w.heap.size, 1, none⟩ = some (.int .i64 q) ∧ V.cell? ⟨w.heap.size, 2, none⟩ = some (.int .i64 g)) (by kernel_rfl) ?_ (fun hHeld => ?_)
        · exact hS _ (by repeat (first | with_reducible assumption | with_reducible exact Ext.refl _ | with_reducible apply Ext.alloc | with_reducible apply Ext.drew | with_reducible apply Ext.drewN))
        refine' wpAnyH_take (i := 0) (v := _) ?hi0 (by kernel_rfl) (by kernel_rfl) (by kernel_rfl) ?hQ0 ?hy0 (by assumption) ?_
        case hi0 => (simp only [List.getElem?_toArray, List.getElem?_cons_zero]; rfl)
        case hy0 => refine Or.inl ⟨by rfl, ?_⟩; intro w hSw; (try dsimp only at hSw); go_simp <;> with_reducible rfl
        case hQ0 => exact fun _ _ _ h => h
        try simp only [Act.put, List.setIfInBounds_toArray, List.set_cons_zero, List.set_cons_succ]
        refine' wpAnyH_take (i := 1) (v := _) ?hi1 (by kernel_rfl) (by kernel_rfl) (by kernel_rfl) ?hQ1 ?hy1 (by assumption) ?_
        case hi1 => (simp only [List.getElem?_toArray, List.getElem?_cons_succ, List.getElem?_cons_zero]; rfl)
        case hy1 => refine Or.inl ⟨by rfl, ?_⟩; intro w hSw; (try dsimp only at hSw); go_simp <;> with_reducible rfl
        case hQ1 => exact fun _ _ _ h => h
        try simp only [Act.put, List.setIfInBounds_toArray, List.set_cons_zero, List.set_cons_succ]
        refine' wpAnyH_take (i := 2) (v := _) ?hi2 (by kernel_rfl) (by kernel_rfl) (by kernel_rfl) ?hQ2 ?hy2 (by assumption) ?_
        case hi2 => (simp only [List.getElem?_toArray, List.getElem?_cons_succ, List.getElem?_cons_zero]; rfl)
        case hy2 => refine Or.inl ⟨by rfl, ?_⟩; intro w hSw; (try dsimp only at hSw); go_simp <;> with_reducible rfl
        case hQ2 => exact fun _ _ _ h => h
        try simp only [Act.put, List.setIfInBounds_toArray, List.set_cons_zero, List.set_cons_succ]
        refine' wpAnyH_take (i := 3) (v := _) ?hi3 (by kernel_rfl) (by kernel_rfl) (by kernel_rfl) ?hQ3 ?hy3 (by assumption) ?_
        case hi3 => (simp only [List.getElem?_toArray, List.getElem?_cons_succ, List.getElem?_cons_zero]; rfl)
        case hy3 => refine Or.inl ⟨by rfl, ?_⟩; intro w hSw; (try dsimp only at hSw); go_simp <;> with_reducible rfl
        case hQ3 => exact fun _ _ _ h => h
        try simp only [Act.put, List.setIfInBounds_toArray, List.set_cons_zero, List.set_cons_succ]
        refine' wpAnyH_take (i := 4) (v := _) ?hi4 (by kernel_rfl) (by kernel_rfl) (by kernel_rfl) ?hQ4 ?hy4 (by assumption) ?_
        case hi4 => (simp only [List.getElem?_toArray, List.getElem?_cons_succ, List.getElem?_cons_zero]; rfl)
        case hy4 => refine Or.inl ⟨by rfl, ?_⟩; intro w hSw; (try dsimp only at hSw); go_simp <;> with_reducible rfl
        case hQ4 => exact fun _ _ _ h => h
        try simp only [Act.put, List.setIfInBounds_toArray, List.set_cons_zero, List.set_cons_succ]
        refine wpAnyH_ready (rs := [5]) (by kernel_rfl) (by simp) ?_
        refine AllReadyH.cons rfl (fun KK hKK => ?_) ?_
        · go_simp
          go_at_call 37
          refine (yLagrange_any p q g 0 Y n yc xs _ HGG.out (hyr.ext (by repeat (first | with_reducible assumption | with_reducible exact Ext.refl _ | with_reducible apply Ext.alloc | with_reducible apply Ext.drew | with_reducible apply Ext.drewN))) hxl (by omega) hxn HXR.out (by omega)).mono ?_
          rintro ek wk5 ⟨LA, lc, rfl, hL5, hbk5⟩
          rw [HLAM.out] at hL5
          have hxk5 := Ext.trans (w := wa) (by repeat (first | with_reducible assumption | with_reducible exact Ext.refl _ | with_reducible apply Ext.alloc | with_reducible apply Ext.drew | with_reducible apply Ext.drewN)) hbk5
          refine hKK.out _ _ ?_ (fun hHeld => ?_)
          · exact hS _ (by repeat (first | with_reducible assumption | with_reducible exact Ext.refl _ | with_reducible apply Ext.alloc | with_reducible apply Ext.drew | with_reducible apply Ext.drewN))
          clear hKK KK
          try simp only [Act.put, List.setIfInBounds_toArray, List.set_cons_zero, List.set_cons_succ]
          refine' wpAnyH_take (i := 6) (v := _) ?hi6 (by kernel_rfl) (by kernel_rfl) (by kernel_rfl) ?hQ6 ?hy6 (by assumption) ?_
          case hi6 => (simp only [List.getElem?_toArray, List.getElem?_cons_succ, List.getElem?_cons_zero]; rfl)
          case hy6 => refine Or.inl ⟨by rfl, ?_⟩; intro w hSw; (try dsimp only at hSw); go_simp <;> with_reducible rfl
          case hQ6 => exact fun _ _ _ h => h
          try simp only [Act.put, List.setIfInBounds_toArray, List.set_cons_zero, List.set_cons_succ]
          refine wpAnyH_done (by kernel_rfl) ?_ _
          go_wp2
          go_meet
          exact ⟨_, _, rfl, hL5.more (Ext.size (w := wa) (by repeat (first | with_reducible assumption | with_reducible exact Ext.refl _ | with_reducible apply Ext.alloc | with_reducible apply Ext.drew | with_reducible apply Ext.drewN))), hxk5⟩
        exact AllReadyH.nil
      case' rest =>
      obtain ⟨LA, lc, rfl, hL, hbc⟩ := hcut
      generalize wc = ws at *
      obtain ⟨DL, hDL⟩ : ∃ DL, (F1.map fun k => ds.getD k ([], [])) = DL := ⟨_, rfl⟩
      have hRD0 : RdD wa U DL := by rw [← hDL]; exact RowsRd.rd (hRR.ext E2) hU.rd
      have hRD := hRD0.ext hbc
      have hX' := hX.ext hbc
      have hXlo := hX'.low
      have hUc := hU.cap
      have EZ := E.trans hbc
      have BG := B0.ext hbc
      have BR := B1.ext hbc
      have hwa := hbc.size
      have hw0 := EW.size
      have hwz := EZ.size
      have hE2z := E2.size
      replace hL := hL.more (Nat.le_refl _)
      obtain ⟨Zl, hZl⟩ : ∃ Zl, ((F1.take n).map fun k => ds.getD k ([], [])).zip lam = Zl := ⟨_, rfl⟩
      have hnF : n ≤ F1.length := by have := HUL.out; omega
      have hZlen : Zl.length = n := by rw [← hZl]; simp; have := hL.len; omega
      have hZat : ∀ k, (h : k < Zl.length) → (h1 : k < DL.length) → (h2 : k < lam.length) → Zl[k] = (DL[k], lam[k]) := by
        intro k h h1 h2
        subst hZl hDL
        simp
      have hhd : F1.headD 0 < ds.length := by
        have h9 : F1.headD 0 ∈ F1 := by
          cases F1 with
          | nil => exact absurd hnF (by simp; omega)
          | cons a l => exact List.mem_cons_self ..
        have := HFR.out _ h9; have := HLD.out; omega
      have hsp : ∀ k ∈ F1, (ds.getD k ([], [])).1.length = (ds.getD (F1.headD 0) ([], [])).1.length ∧ (ds.getD k ([], [])).2.length = (ds.getD (F1.headD 0) ([], [])).2.length := fun k hk => by
        rcases HSHP.out k hk with h9 | h9
        · rw [h9]; exact ⟨rfl, rfl⟩
        · unfold rsS at h9
          rw [Bool.and_eq_true] at h9
          exact ⟨of_decide_eq_true h9.1, of_decide_eq_true h9.2⟩
      have hdf0 := dlF HGG.out (HDV.out _ (List.getElem_mem hhd))
      have hN7 : (ds.getD (F1.headD 0) ([], [])).1.length ≤ 7 := by rw [getD_at _ hhd]; exact hdf0.c7
      have hM7 : (ds.getD (F1.headD 0) ([], [])).2.length ≤ 7 := by rw [getD_at _ hhd]; exact hdf0.s7
      have hDLF : ∀ d ∈ DL, (d.1.length = (ds.getD (F1.headD 0) ([], [])).1.length ∧ d.2.length = (ds.getD (F1.headD 0) ([], [])).2.length) ∧ (∀ y ∈ d.1, 0 ≤ y ∧ y ≤ 3000000000) ∧ (∀ y ∈ d.2, 0 ≤ y ∧ y ≤ q - 1) := fun d hd => by
        rw [← hDL] at hd
        obtain ⟨k, hk, rfl⟩ := List.mem_map.1 hd
        have hkr := HFR.out k hk
        have hkd : k < ds.length := by have := HLD.out; omega
        have h9 := dlF HGG.out (HDV.out _ (List.getElem_mem hkd))
        refine ⟨hsp k hk, ?_, ?_⟩
        · rw [getD_at _ hkd]; exact h9.cr
        · rw [getD_at _ hkd]; exact h9.sr
      have hvv : rhV p q g cs ixs ds = ((List.range (ds.getD (F1.headD 0) ([], [])).1.length).map fun j => cColC p q Zl j 1, (List.range (ds.getD (F1.headD 0) ([], [])).2.length).map fun j => cColS q Zl j 0) := by
        unfold rhV rhZ
        rw [HV.out, HF.out, HXS.out, HLC.out, HLAM.out, if_pos rfl, hZl]
      have HDLL : Hid (DL.length = u) := by show _ = _; rw [← hDL, List.length_map]; exact HUL.out
      generalize hNN : (ds.getD (F1.headD 0) ([], [])).1.length = NN at *
      generalize hMM : (ds.getD (F1.headD 0) ([], [])).2.length = MM at *
      have HVV := Lib.hid hvv
      have HZA := Lib.hid hZat
      have HDF := Lib.hid hDLF
      have HZL := Lib.hid hZlen
      have hu0 : 0 < DL.length := by rw [HDLL.out]; omega
      have HD1 := Lib.hid (hDLF _ (List.getElem_mem hu0)).1
      clear hZl hvv hZat hDLF hZlen hDL hNN hMM hsp hhd hdf0 hS hnF hRR hRD0 hyr hxn hxl hY hX hap hE2z hucap hU E2
      have huU : (u : Int) ≤ (uc : Int) ∧ n ≤ u := by omega
      have hnu : (n : Int) ≤ (uc : Int) := by omega
      have hnuc : n ≤ uc := by omega
      obtain ⟨au, hUA, P1, p1, q1, P2, p2, q2, hf0, hg0, t1, t2⟩ := RdD.at_ hRD hu0
      subst hUA
      rw [show au.add (0 * 2) = au from rfl] at hf0 hg0
      have hp1 : p1 = NN := by rw [← HD1.out.1]; exact t1.len.symm
      have hp2 : p2 = MM := by rw [← HD1.out.2]; exact t2.len.symm
      subst hp1 hp2
      have hu00 : (0 : Int) < (u : Int) := by omega
      have hx0 := (Ext.refl ws).alloc (.cells #[.slice none 0 0, .slice none 0 0] 28)
      have BO := Blk.new ws 28 #[.slice none 0 0, .slice none 0 0]
      have hW0 := OwnI.nil (ws.alloc (.cells #[.slice none 0 0, .slice none 0 0] 28)) ws.heap.size 3
      have hf1 := hx0.cell hf0
      clear t1 t2
      go_wp2
      go_loopw [138] (fun i wr => ∃ (t : Nat) (W : Option Addr) (wc : Nat), t ≤ p1 ∧ i = .int .i64 t ∧ Blk wr ws.heap.size 28 #[.slice W t wc, .slice none 0 0] ∧ OwnI wr ws.heap.size 3 W t wc ((List.range t).map fun j => cColC p q Zl j 1) ∧ Ext ws wr) (fun i _ => p1 - (intOf i).toNat)
      case atStart => exact ⟨0, none, 0, Nat.zero_le _, rfl, BO, hW0, hx0⟩
      case round =>
      clear BO hW0 hx0 hf1
      obtain ⟨t, W, wc, ht, rfl, BO, hW, E7⟩ := hrel
      by_cases hlt1 : t < p1
      · have htp : (t : Int) < (p1 : Int) := by omega
        go_wp2
        generalize wr = wx at *
        go_loopw [21, 145] (fun x i wr => ∃ (k : Nat), k ≤ n ∧ x = .int .i64 (cColC p q (Zl.take k) t 1) ∧ i = .int .i64 k ∧ Ext wx wr) (fun _ i _ => n - (intOf i).toNat)
        case atStart => exact ⟨0, Nat.zero_le _, rfl, rfl, Ext.refl _⟩
        case round =>
        obtain ⟨k, hk, rfl, rfl, E8⟩ := hrel
        by_cases hlt2 : k < n
        · have hkD : k < DL.length := by rw [HDLL.out]; omega
          have hkL : k < lam.length := by rw [hL.len]; exact hlt2
          have hkZ : k < Zl.length := by rw [HZL.out]; exact hlt2
          obtain ⟨au', hUA, A1, n1, c1, A2, m1, d1, hc0, hdd0, s1, s2⟩ := (hRD.ext (E7.trans E8)).at_ hkD
          injection hUA with hUA
          subst hUA
          obtain ⟨al, hLA, hl0⟩ := (hL.ext (E7.trans E8)).rd.at_ hkL
          subst hLA
          have hfk := HDF.out _ (List.getElem_mem hkD)
          have hn1 : n1 = p1 := by rw [← s1.len]; exact hfk.1.1
          have ht1 : t < DL[k].1.length := by rw [hfk.1.1]; exact hlt1
          obtain ⟨a1, hA1, hx1⟩ := s1.rd.at_ ht1
          subst hA1
          have hcr := hfk.2.1 _ (List.getElem_mem ht1)
          have hle := HLB.out _ (List.getElem_mem hkL)
          have HCT : Hid (cColC p q (Zl.take (k + 1)) t 1 = gmul p [cColC p q (Zl.take k) t 1, gpw p q DL[k].1[t] lam[k]]) := by show _ = _; rw [cColC_take hkZ, HZA.out k hkZ hkD hkL, getD_at _ ht1]
          have hxr9 := cColC_rg HG.out Zl t k (by omega)
          generalize DL[k].1[t] = y1 at *
          generalize lam[k] = e0 at *
          generalize cColC p q (Zl.take k) t 1 = x9 at *
          obtain ⟨v5, hv5⟩ : ∃ v5, gpw p q y1 e0 = v5 := ⟨_, rfl⟩
          have hv5r := gpw_rg p q y1 e0 HG.out
          rw [hv5] at HCT hv5r
          have HV5 := Lib.hid hv5
          obtain ⟨v6, hv6⟩ : ∃ v6, gmul p [x9, v5] = v6 := ⟨_, rfl⟩
          have HV6 := Lib.hid hv6
          subst hn1
          clear hv5 hv6 hkD hkL hkZ ht1 hfk s1 s2
          have hkn : (k : Int) < (n : Int) := by omega
          have hk0 : (0 : Int) ≤ (k : Int) := by omega
          have ht0 : (0 : Int) ≤ (t : Int) := by omega
          have BD := Blk.new wr 68 #[.slice (some a1) n1 c1, .slice A2 m1 d1]
          have hxd := (Ext.refl wr).alloc (.cells #[.slice (some a1) n1 c1, .slice A2 m1 d1] 68)
          have BG8 := (BG.ext (E7.trans E8)).ext hxd
          go_upto_region 26 with (fail)
          replace hl0 := hxd.cell hl0
          replace hx1 := hxd.cell hx1
          have E9 := E8.trans hxd
          generalize hWb : wr.alloc (.cells #[.slice (some a1) n1 c1, .slice A2 m1 d1] 68) = Wb at *
          generalize hgd : wr.heap.size = gd at *
          clear hWb hgd hc0 hdd0 hxd E8
          have hS : ∀ V, Ext Wb V → V.cell? ⟨w.heap.size, 0, none⟩ = some (.int .i64 p) ∧ V.cell? ⟨w.heap.size, 1, none⟩ = some (.int .i64 q) ∧ V.cell? ⟨w.heap.size, 2, none⟩ = some (.int .i64 g) ∧ V.cell? ⟨gd, 0, none⟩ = some (.slice (some a1) n1 c1) ∧ V.cell? (a1.add t) = some (.int .i64 y1) ∧ V.cell? (al.add k) = some (.int .i64 e0) := fun V hV => by
            have a0 := (BG8.ext hV).cells
            have a3 := (BD.ext hV).cells
            exact ⟨a0 0, a0 1, a0 2, a3 0, hV.cell hx1, hV.cell hl0⟩
          refine wp_region_held_drew (S := fun V => V.cell? ⟨w.heap.size, 0, none⟩ = some (.int .i64 p) ∧ V.cell? ⟨w.heap.size, 1, none⟩ = some (.int .i64 q) ∧ V.cell? ⟨w.heap.size, 2, none⟩ = some (.int .i64 g) ∧ V.cell? ⟨gd, 0, none⟩ = some (.slice (some a1) n1 c1) ∧ V.cell? (a1.add t) = some (.int .i64 y1) ∧ V.cell? (al.add k) = some (.int .i64 e0)) (by kernel_rfl) ?_ (fun hHeld => ?_)
          · exact hS _ (by repeat (first | with_reducible assumption | with_reducible exact Ext.refl _ | with_reducible apply Ext.alloc | with_reducible apply Ext.drew | with_reducible apply Ext.drewN))
          refine' wpAnyH_take (i := 0) (v := _) ?hi0 (by kernel_rfl) (by kernel_rfl) (by kernel_rfl) ?hQ0 ?hy0 (by assumption) ?_
          case hi0 => (simp only [List.getElem?_toArray, List.getElem?_cons_zero]; rfl)
          case hy0 => refine Or.inl ⟨by rfl, ?_⟩; intro w hSw; (try dsimp only at hSw); go_simp <;> with_reducible rfl
          case hQ0 => exact fun _ _ _ h => h
          try simp only [Act.put, List.setIfInBounds_toArray, List.set_cons_zero, List.set_cons_succ]
          refine' wpAnyH_take (i := 1) (v := _) ?hi1 (by kernel_rfl) (by kernel_rfl) (by kernel_rfl) ?hQ1 ?hy1 (by assumption) ?_
          case hi1 => (simp only [List.getElem?_toArray, List.getElem?_cons_succ, List.getElem?_cons_zero]; rfl)
          case hy1 => refine Or.inl ⟨by rfl, ?_⟩; intro w hSw; (try dsimp only at hSw); go_simp <;> with_reducible rfl
          case hQ1 => exact fun _ _ _ h => h
          try simp only [Act.put, List.setIfInBounds_toArray, List.set_cons_zero, List.set_cons_succ]
          refine' wpAnyH_take (i := 2) (v := _) ?hi2 (by kernel_rfl) (by kernel_rfl) (by kernel_rfl) ?hQ2 ?hy2 (by assumption) ?_
          case hi2 => (simp only [List.getElem?_toArray, List.getElem?_cons_succ, List.getElem?_cons_zero]; rfl)
          case hy2 => refine Or.inl ⟨by rfl, ?_⟩; intro w hSw; (try dsimp only at hSw); go_simp <;> with_reducible rfl
          case hQ2 => exact fun _ _ _ h => h
          try simp only [Act.put, List.setIfInBounds_toArray, List.set_cons_zero, List.set_cons_succ]
          refine' wpAnyH_take (i := 3) (v := _) ?hi3 (by kernel_rfl) (by kernel_rfl) (by kernel_rfl) ?hQ3 ?hy3 (by assumption) ?_
          case hi3 => (simp only [List.getElem?_toArray, List.getElem?_cons_succ, List.getElem?_cons_zero]; rfl)
          case hy3 => refine Or.inl ⟨by rfl, ?_⟩; intro w hSw; (try dsimp only at hSw); go_simp <;> with_reducible rfl
          case hQ3 => exact fun _ _ _ h => h
          try simp only [Act.put, List.setIfInBounds_toArray, List.set_cons_zero, List.set_cons_succ]
          refine' wpAnyH_take (i := 4) (v := _) ?hi4 (by kernel_rfl) (by kernel_rfl) (by kernel_rfl) ?hQ4 ?hy4 (by assumption) ?_
          case hi4 => (simp only [List.getElem?_toArray, List.getElem?_cons_succ, List.getElem?_cons_zero]; rfl)
          case hy4 => refine Or.inl ⟨by rfl, ?_⟩; intro w hSw; (try dsimp only at hSw); go_simp <;> with_reducible rfl
          case hQ4 => exact fun _ _ _ h => h
          try simp only [Act.put, List.setIfInBounds_toArray, List.set_cons_zero, List.set_cons_succ]
          refine' wpAnyH_take (i := 5) (v := _) ?hi5 (by kernel_rfl) (by kernel_rfl) (by kernel_rfl) ?hQ5 ?hy5 (by assumption) ?_
          case hi5 => (simp only [List.getElem?_toArray, List.getElem?_cons_succ, List.getElem?_cons_zero]; rfl)
          case hy5 => refine Or.inl ⟨by rfl, ?_⟩; intro w hSw; (try dsimp only at hSw); go_simp <;> with_reducible rfl
          case hQ5 => exact fun _ _ _ h => h
          try simp only [Act.put, List.setIfInBounds_toArray, List.set_cons_zero, List.set_cons_succ]
          refine' wpAnyH_take (i := 6) (v := _) ?hi6 (by kernel_rfl) (by kernel_rfl) (by kernel_rfl) ?hQ6 ?hy6 (by assumption) ?_
          case hi6 => (simp only [List.getElem?_toArray, List.getElem?_cons_succ, List.getElem?_cons_zero]; rfl)
          case hy6 => refine Or.inl ⟨by rfl, ?_⟩; intro w hSw; (try dsimp only at hSw); go_simp <;> with_reducible rfl
          case hQ6 => exact fun _ _ _ h => h
          try simp only [Act.put, List.setIfInBounds_toArray, List.set_cons_zero, List.set_cons_succ]
          refine' wpAnyH_take (i := 7) (v := _) ?hi7 (by kernel_rfl) (by kernel_rfl) (by kernel_rfl) ?hQ7 ?hy7 (by assumption) ?_
          case hi7 => (simp only [List.getElem?_toArray, List.getElem?_cons_succ, List.getElem?_cons_zero]; rfl)
          case hy7 => refine Or.inl ⟨by rfl, ?_⟩; intro w hSw; (try dsimp only at hSw); go_simp <;> with_reducible rfl
          case hQ7 => exact fun _ _ _ h => h
          try simp only [Act.put, List.setIfInBounds_toArray, List.set_cons_zero, List.set_cons_succ]
          refine' wpAnyH_take (i := 8) (v := _) ?hi8 (by kernel_rfl) (by kernel_rfl) (by kernel_rfl) ?hQ8 ?hy8 (by assumption) ?_
          case hi8 => (simp only [List.getElem?_toArray, List.getElem?_cons_succ, List.getElem?_cons_zero]; rfl)
          case hy8 => refine Or.inl ⟨by rfl, ?_⟩; intro w hSw; (try dsimp only at hSw); go_simp <;> with_reducible rfl
          case hQ8 => exact fun _ _ _ h => h
          try simp only [Act.put, List.setIfInBounds_toArray, List.set_cons_zero, List.set_cons_succ]
          refine' wpAnyH_take (i := 9) (v := _) ?hi9 (by kernel_rfl) (by kernel_rfl) (by kernel_rfl) ?hQ9 ?hy9 (by assumption) ?_
          case hi9 => (simp only [List.getElem?_toArray, List.getElem?_cons_succ, List.getElem?_cons_zero]; rfl)
          case hy9 => refine Or.inl ⟨by rfl, ?_⟩; intro w hSw; (try dsimp only at hSw); go_simp <;> with_reducible rfl
          case hQ9 => exact fun _ _ _ h => h
          try simp only [Act.put, List.setIfInBounds_toArray, List.set_cons_zero, List.set_cons_succ]
          refine' wpAnyH_take (i := 10) (v := _) ?hi10 (by kernel_rfl) (by kernel_rfl) (by kernel_rfl) ?hQ10 ?hy10 (by assumption) ?_
          case hi10 => (simp only [List.getElem?_toArray, List.getElem?_cons_succ, List.getElem?_cons_zero]; rfl)
          case hy10 => refine Or.inl ⟨by rfl, ?_⟩; intro w hSw; (try dsimp only at hSw); go_simp <;> with_reducible rfl
          case hQ10 => exact fun _ _ _ h => h
          try simp only [Act.put, List.setIfInBounds_toArray, List.set_cons_zero, List.set_cons_succ]
          refine' wpAnyH_take (i := 11) (v := _) ?hi11 (by kernel_rfl) (by kernel_rfl) (by kernel_rfl) ?hQ11 ?hy11 (by assumption) ?_
          case hi11 => (simp only [List.getElem?_toArray, List.getElem?_cons_succ, List.getElem?_cons_zero]; rfl)
          case hy11 => refine Or.inl ⟨by rfl, ?_⟩; intro w hSw; (try dsimp only at hSw); go_simp <;> with_reducible rfl
          case hQ11 => exact fun _ _ _ h => h
          try simp only [Act.put, List.setIfInBounds_toArray, List.set_cons_zero, List.set_cons_succ]
          refine wpAnyH_ready (rs := [12]) (by kernel_rfl) (by simp) ?_
          refine AllReadyH.cons rfl (fun KK hKK => ?_) ?_
          · go_simp
            go_at_call 39
            refine (gExp_any p q g y1 e0 _ HG.out (by omega) (by omega) (by omega) (by omega)).mono ?_
            rintro ek wk12 ⟨hek, hbk12⟩
            rw [HV5.out] at hek; subst hek
            have hxk12 := Ext.trans (w := Wb) (by repeat (first | with_reducible assumption | with_reducible exact Ext.refl _ | with_reducible apply Ext.alloc | with_reducible apply Ext.drew | with_reducible apply Ext.drewN)) hbk12
            refine hKK.out _ _ ?_ (fun hHeld => ?_)
            · exact hS _ (by repeat (first | with_reducible assumption | with_reducible exact Ext.refl _ | with_reducible apply Ext.alloc | with_reducible apply Ext.drew | with_reducible apply Ext.drewN))
            clear hKK KK
            try simp only [Act.put, List.setIfInBounds_toArray, List.set_cons_zero, List.set_cons_succ]
            refine wpAnyH_ready (rs := [13]) (by kernel_rfl) (by simp) ?_
            refine AllReadyH.cons rfl (fun KK hKK => ?_) ?_
            · go_simp
              refine hKK.out _ _ ?_ (fun hHeld => ?_)
              · exact hS _ (by repeat (first | with_reducible assumption | with_reducible exact Ext.refl _ | with_reducible apply Ext.alloc | with_reducible apply Ext.drew | with_reducible apply Ext.drewN))
              clear hKK KK
              try simp only [Act.put, List.setIfInBounds_toArray, List.set_cons_zero, List.set_cons_succ]
              refine wpAnyH_ready (rs := [14]) (by kernel_rfl) (by simp) ?_
              refine AllReadyH.cons rfl (fun KK hKK => ?_) ?_
              · go_simp
                go_at_call 38
                refine (gMul_any p q g _ 2 2 [x9, v5] _ HG.out (RdI.ext (rd_two (w := wk12) rfl) (by repeat (first | with_reducible assumption | with_reducible exact Ext.refl _ | with_reducible apply Ext.alloc | with_reducible apply Ext.drew | with_reducible apply Ext.drewN))) rfl (by decide) (two_rg (by omega) (by omega))).mono ?_
                rintro ek wk14 ⟨hek, hbk14⟩
                rw [HV6.out] at hek; subst hek
                have hxk14 := Ext.trans (w := Wb) (Ext.trans hxk12 (by repeat (first | with_reducible assumption | with_reducible exact Ext.refl _ | with_reducible apply Ext.alloc | with_reducible apply Ext.drew | with_reducible apply Ext.drewN))) hbk14
                refine hKK.out _ _ ?_ (fun hHeld => ?_)
                · exact hS _ (by repeat (first | with_reducible assumption | with_reducible exact Ext.refl _ | with_reducible apply Ext.alloc | with_reducible apply Ext.drew | with_reducible apply Ext.drewN))
                clear hKK KK
                try simp only [Act.put, List.setIfInBounds_toArray, List.set_cons_zero, List.set_cons_succ]
                refine' wpAnyH_take (i := 15) (v := _) ?hi15 (by kernel_rfl) (by kernel_rfl) (by kernel_rfl) ?hQ15 ?hy15 (by assumption) ?_
                case hi15 => (simp only [List.getElem?_toArray, List.getElem?_cons_succ, List.getElem?_cons_zero]; rfl)
                case hy15 => refine Or.inl ⟨by rfl, ?_⟩; intro w hSw; (try dsimp only at hSw); go_simp <;> with_reducible rfl
                case hQ15 => exact fun _ _ _ h => h
                try simp only [Act.put, List.setIfInBounds_toArray, List.set_cons_zero, List.set_cons_succ]
                refine wpAnyH_done (by kernel_rfl) ?_ _
                go_wp2
                go_roundw
                case rel => exact ⟨k + 1, by omega, by rw [HCT.out, HV6.out], by go_num, E9.trans hxk14⟩
                case measure => first | (simp [intOf]; done) | (simp [intOf]; omega)
              exact AllReadyH.nil
            exact AllReadyH.nil
          exact AllReadyH.nil
        · obtain rfl : n = k := by omega
          rw [List.take_of_length_le (by rw [HZL.out]; omega)]
          have hW8 := hW.ext E8
          have BO8 := BO.ext E8
          have hsz8 := (E7.trans E8).size
          have CN8 := BO8.cells
          have FN8 := BO8.frozen
          have HR1 : Hid ((List.range (t + 1)).map (fun j => cColC p q Zl j 1) = (List.range t).map (fun j => cColC p q Zl j 1) ++ [cColC p q Zl t 1]) := by show _ = _; rw [List.range_succ, List.map_append, List.map_cons, List.map_nil]
          generalize cColC p q Zl t 1 = v9 at *
          go_wp2_with (at_builtin; refine wpList_app1F intSl rfl _ _ rfl hW8 rfl rfl rfl (by omega) hsz8 ?_; intro W2 d2 w2 hW2 hon hli; have BO9 := Blk.only BO8 hon (Blk.off_own BO8 hW8.w (by decide)); have FN := BO9.frozen; have CN := BO9.cells)
          have E9 := (E7.trans E8).only hon hW8.high
          rw [← HR1.out] at hW2
          clear CN8 FN8 BO8 hW8 hW BO E8
          go_roundw
          case rel => exact ⟨t + 1, W2, d2, by omega, by go_num, BO9.set_ 0 _, hW2.keepBlk BO9 (by decide) ((Only.refl _ _).setCell (by simp) _), E9.setCell (by simp) _⟩
          case measure => first | (simp [intOf]; done) | (simp [intOf]; omega)
      · obtain rfl : p1 = t := by omega
        generalize wr = wy at *
        have hg1 := E7.cell hg0
        have hlw := hW.low
        have hxx := E7.size
        have hU0 := OwnI.nil wy wy.heap.size 3
        go_wp2
        clear hg1
        go_loopw [178] (fun i wr => ∃ (t : Nat) (K : Option Addr) (vc : Nat), t ≤ p2 ∧ i = .int .i64 t ∧ Blk wr ws.heap.size 28 #[.slice W p1 wc, .slice K t vc] ∧ OwnI wr wy.heap.size 3 K t vc ((List.range t).map fun j => cColS q Zl j 0) ∧ OwnI wr ws.heap.size 3 W p1 wc ((List.range p1).map fun j => cColC p q Zl j 1) ∧ wy.heap.size ≤ wr.heap.size ∧ Ext ws wr) (fun i _ => p2 - (intOf i).toNat)
        case atStart => exact ⟨0, none, 0, Nat.zero_le _, rfl, BO, hU0, hW, Nat.le_refl _, E7⟩
        case round =>
        clear BO hU0 hW
        obtain ⟨t, K, vc, ht2, rfl, BO, hV, hW, hwx, E8⟩ := hrel
        by_cases hlt2 : t < p2
        · have htp : (t : Int) < (p2 : Int) := by omega
          go_wp2
          generalize wr = wx at *
          go_loopw [25, 185] (fun x i wr => ∃ (k : Nat), k ≤ n ∧ x = .int .i64 (cColS q (Zl.take k) t 0) ∧ i = .int .i64 k ∧ Ext wx wr) (fun _ i _ => n - (intOf i).toNat)
          case atStart => exact ⟨0, Nat.zero_le _, rfl, rfl, Ext.refl _⟩
          case round =>
          obtain ⟨k, hk, rfl, rfl, E9⟩ := hrel
          by_cases hlt3 : k < n
          · have hkD : k < DL.length := by rw [HDLL.out]; omega
            have hkL : k < lam.length := by rw [hL.len]; exact hlt3
            have hkZ : k < Zl.length := by rw [HZL.out]; exact hlt3
            obtain ⟨au', hUA, A1, n1, c1, A2, m1, d1, hc0, hdd0, s1, s2⟩ := (hRD.ext (E8.trans E9)).at_ hkD
            injection hUA with hUA
            subst hUA
            obtain ⟨al, hLA, hl0⟩ := (hL.ext (E8.trans E9)).rd.at_ hkL
            subst hLA
            have hfk := HDF.out _ (List.getElem_mem hkD)
            have hm1 : m1 = p2 := by rw [← s2.len]; exact hfk.1.2
            have ht1 : t < DL[k].2.length := by rw [hfk.1.2]; exact hlt2
            obtain ⟨a1, hA1, hx1⟩ := s2.rd.at_ ht1
            subst hA1
            have hcr := hfk.2.2 _ (List.getElem_mem ht1)
            have hle := HLB.out _ (List.getElem_mem hkL)
            have HCT : Hid (cColS q (Zl.take (k + 1)) t 0 = (cColS q (Zl.take k) t 0 + DL[k].2[t] * lam[k]) % q) := by show _ = _; rw [cColS_take hkZ, HZA.out k hkZ hkD hkL, getD_at _ ht1]
            have hxr9 := cColS_rg hq2 Zl t k (by omega)
            generalize DL[k].2[t] = y1 at *
            generalize lam[k] = e0 at *
            generalize cColS q (Zl.take k) t 0 = x9 at *
            have hpr1 := Int.mul_nonneg hcr.1 hle.1
            have hpr2 : y1 * e0 ≤ 2000000000 * 2000000000 := Int.mul_le_mul (by omega) (by omega) hle.1 (by omega)
            generalize hpr : y1 * e0 = pr at *
            have hw1 : IntKind.i64.wrap (y1 * e0) = pr := by rw [hpr]; exact IntWalk.i64_in _ (by omega)
            have hw2 : IntKind.i64.wrap (x9 + pr) = x9 + pr := IntWalk.i64_in _ (by omega)
            have hq0 : (q == 0) = false := by simp; omega
            have hqn : ¬ q = 0 := by omega
            have hs3 : (x9 + pr).tmod q = (x9 + pr) % q := Int.tmod_eq_emod_of_nonneg (by omega)
            have hs4 : IntKind.i64.wrap ((x9 + pr) % q) = (x9 + pr) % q := by have h9 := emod_bd (x := x9 + pr) (q := q) (by omega); exact IntWalk.i64_in _ (by omega)
            subst hm1
            clear hkD hkL hkZ ht1 hfk s1 s2 hpr
            have hkn : (k : Int) < (n : Int) := by omega
            have hk0 : (0 : Int) ≤ (k : Int) := by omega
            have ht0 : (0 : Int) ≤ (t : Int) := by omega
            have BD := Blk.new wr 68 #[.slice A1 n1 c1, .slice (some a1) m1 d1]
            have hxd := (Ext.refl wr).alloc (.cells #[.slice A1 n1 c1, .slice (some a1) m1 d1] 68)
            have BG8 := (BG.ext (E8.trans E9)).ext hxd
            go_upto_region 37 with (fail)
            replace hl0 := hxd.cell hl0
            replace hx1 := hxd.cell hx1
            have E10 := E9.trans hxd
            generalize hWb : wr.alloc (.cells #[.slice A1 n1 c1, .slice (some a1) m1 d1] 68) = Wb at *
            generalize hgd : wr.heap.size = gd at *
            clear hWb hgd hc0 hdd0 hxd E9
            have hS : ∀ V, Ext Wb V → V.cell? ⟨w.heap.size, 1, none⟩ = some (.int .i64 q) ∧ V.cell? ⟨gd, 1, none⟩ = some (.slice (some a1) m1 d1) ∧ V.cell? (a1.add t) = some (.int .i64 y1) ∧ V.cell? (al.add k) = some (.int .i64 e0) := fun V hV => by
              have a0 := (BG8.ext hV).cells
              have a3 := (BD.ext hV).cells
              exact ⟨a0 1, a3 1, hV.cell hx1, hV.cell hl0⟩
            refine wp_region_held_drew (S := fun V => V.cell? ⟨w.heap.size, 1, none⟩ = some (.int .i64 q) ∧ V.cell? ⟨gd, 1, none⟩ = some (.slice (some a1) m1 d1) ∧ V.cell? (a1.add t) = some (.int .i64 y1) ∧ V.cell? (al.add k) = some (.int .i64 e0)) (by kernel_rfl) ?_ (fun hHeld => ?_)
            · exact hS _ (by repeat (first | with_reducible assumption | with_reducible exact Ext.refl _ | with_reducible apply Ext.alloc | with_reducible apply Ext.drew | with_reducible apply Ext.drewN))
            refine' wpAnyH_take (i := 0) (v := _) ?hi0 (by kernel_rfl) (by kernel_rfl) (by kernel_rfl) ?hQ0 ?hy0 (by assumption) ?_
            case hi0 => (simp only [List.getElem?_toArray, List.getElem?_cons_zero]; rfl)
            case hy0 => refine Or.inl ⟨by rfl, ?_⟩; intro w hSw; (try dsimp only at hSw); go_simp <;> with_reducible rfl
            case hQ0 => exact fun _ _ _ h => h
            try simp only [Act.put, List.setIfInBounds_toArray, List.set_cons_zero, List.set_cons_succ]
            refine' wpAnyH_take (i := 1) (v := _) ?hi1 (by kernel_rfl) (by kernel_rfl) (by kernel_rfl) ?hQ1 ?hy1 (by assumption) ?_
            case hi1 => (simp only [List.getElem?_toArray, List.getElem?_cons_succ, List.getElem?_cons_zero]; rfl)
            case hy1 => refine Or.inl ⟨by rfl, ?_⟩; intro w hSw; (try dsimp only at hSw); go_simp <;> with_reducible rfl
            case hQ1 => exact fun _ _ _ h => h
            try simp only [Act.put, List.setIfInBounds_toArray, List.set_cons_zero, List.set_cons_succ]
            refine' wpAnyH_take (i := 2) (v := _) ?hi2 (by kernel_rfl) (by kernel_rfl) (by kernel_rfl) ?hQ2 ?hy2 (by assumption) ?_
            case hi2 => (simp only [List.getElem?_toArray, List.getElem?_cons_succ, List.getElem?_cons_zero]; rfl)
            case hy2 => refine Or.inl ⟨by rfl, ?_⟩; intro w hSw; (try dsimp only at hSw); go_simp <;> with_reducible rfl
            case hQ2 => exact fun _ _ _ h => h
            try simp only [Act.put, List.setIfInBounds_toArray, List.set_cons_zero, List.set_cons_succ]
            refine' wpAnyH_take (i := 3) (v := _) ?hi3 (by kernel_rfl) (by kernel_rfl) (by kernel_rfl) ?hQ3 ?hy3 (by assumption) ?_
            case hi3 => (simp only [List.getElem?_toArray, List.getElem?_cons_succ, List.getElem?_cons_zero]; rfl)
            case hy3 => refine Or.inl ⟨by rfl, ?_⟩; intro w hSw; (try dsimp only at hSw); go_simp <;> with_reducible rfl
            case hQ3 => exact fun _ _ _ h => h
            try simp only [Act.put, List.setIfInBounds_toArray, List.set_cons_zero, List.set_cons_succ]
            refine' wpAnyH_take (i := 4) (v := _) ?hi4 (by kernel_rfl) (by kernel_rfl) (by kernel_rfl) ?hQ4 ?hy4 (by assumption) ?_
            case hi4 => (simp only [List.getElem?_toArray, List.getElem?_cons_succ, List.getElem?_cons_zero]; rfl)
            case hy4 => refine Or.inl ⟨by rfl, ?_⟩; intro w hSw; (try dsimp only at hSw); go_simp <;> with_reducible rfl
            case hQ4 => exact fun _ _ _ h => h
            try simp only [Act.put, List.setIfInBounds_toArray, List.set_cons_zero, List.set_cons_succ]
            refine' wpAnyH_take (i := 5) (v := _) ?hi5 (by kernel_rfl) (by kernel_rfl) (by kernel_rfl) ?hQ5 ?hy5 (by assumption) ?_
            case hi5 => (simp only [List.getElem?_toArray, List.getElem?_cons_succ, List.getElem?_cons_zero]; rfl)
            case hy5 => refine Or.inl ⟨by rfl, ?_⟩; intro w hSw; (try dsimp only at hSw); go_simp <;> with_reducible rfl
            case hQ5 => exact fun _ _ _ h => h
            try simp only [Act.put, List.setIfInBounds_toArray, List.set_cons_zero, List.set_cons_succ]
            refine' wpAnyH_take (i := 6) (v := _) ?hi6 (by kernel_rfl) (by kernel_rfl) (by kernel_rfl) ?hQ6 ?hy6 (by assumption) ?_
            case hi6 => (simp only [List.getElem?_toArray, List.getElem?_cons_succ, List.getElem?_cons_zero]; rfl)
            case hy6 => refine Or.inl ⟨by rfl, ?_⟩; intro w hSw; (try dsimp only at hSw); go_simp <;> with_reducible rfl
            case hQ6 => exact fun _ _ _ h => h
            try simp only [Act.put, List.setIfInBounds_toArray, List.set_cons_zero, List.set_cons_succ]
            refine' wpAnyH_take (i := 7) (v := _) ?hi7 (by kernel_rfl) (by kernel_rfl) (by kernel_rfl) ?hQ7 ?hy7 (by assumption) ?_
            case hi7 => (simp only [List.getElem?_toArray, List.getElem?_cons_succ, List.getElem?_cons_zero]; rfl)
            case hy7 => refine Or.inl ⟨by rfl, ?_⟩; intro w hSw; (try dsimp only at hSw); go_simp <;> with_reducible rfl
            case hQ7 => exact fun _ _ _ h => h
            try simp only [Act.put, List.setIfInBounds_toArray, List.set_cons_zero, List.set_cons_succ]
            refine' wpAnyH_take (i := 8) (v := _) ?hi8 (by kernel_rfl) (by kernel_rfl) (by kernel_rfl) ?hQ8 ?hy8 (by assumption) ?_
            case hi8 => (simp only [List.getElem?_toArray, List.getElem?_cons_succ, List.getElem?_cons_zero]; rfl)
            case hy8 => refine Or.inl ⟨by rfl, ?_⟩; intro w hSw; (try dsimp only at hSw); go_simp <;> with_reducible rfl
            case hQ8 => exact fun _ _ _ h => h
            try simp only [Act.put, List.setIfInBounds_toArray, List.set_cons_zero, List.set_cons_succ]
            refine' wpAnyH_take (i := 9) (v := _) ?hi9 (by kernel_rfl) (by kernel_rfl) (by kernel_rfl) ?hQ9 ?hy9 (by assumption) ?_
            case hi9 => (simp only [List.getElem?_toArray, List.getElem?_cons_succ, List.getElem?_cons_zero]; rfl)
            case hy9 => refine Or.inl ⟨by rfl, ?_⟩; intro w hSw; (try dsimp only at hSw); go_simp <;> with_reducible rfl
            case hQ9 => exact fun _ _ _ h => h
            try simp only [Act.put, List.setIfInBounds_toArray, List.set_cons_zero, List.set_cons_succ]
            refine' wpAnyH_take (i := 10) (v := _) ?hi10 (by kernel_rfl) (by kernel_rfl) (by kernel_rfl) ?hQ10 ?hy10 (by assumption) ?_
            case hi10 => (simp only [List.getElem?_toArray, List.getElem?_cons_succ, List.getElem?_cons_zero]; rfl)
            case hy10 => refine Or.inl ⟨by rfl, ?_⟩; intro w hSw; (try dsimp only at hSw); go_simp <;> with_reducible rfl
            case hQ10 => exact fun _ _ _ h => h
            try simp only [Act.put, List.setIfInBounds_toArray, List.set_cons_zero, List.set_cons_succ]
            refine' wpAnyH_take (i := 11) (v := _) ?hi11 (by kernel_rfl) (by kernel_rfl) (by kernel_rfl) ?hQ11 ?hy11 (by assumption) ?_
            case hi11 => (simp only [List.getElem?_toArray, List.getElem?_cons_succ, List.getElem?_cons_zero]; rfl)
            case hy11 => refine Or.inl ⟨by rfl, ?_⟩; intro w hSw; (try dsimp only at hSw); go_simp <;> with_reducible rfl
            case hQ11 => exact fun _ _ _ h => h
            try simp only [Act.put, List.setIfInBounds_toArray, List.set_cons_zero, List.set_cons_succ]
            refine' wpAnyH_take (i := 12) (v := _) ?hi12 (by kernel_rfl) (by kernel_rfl) (by kernel_rfl) ?hQ12 ?hy12 (by assumption) ?_
            case hi12 => (simp only [List.getElem?_toArray, List.getElem?_cons_succ, List.getElem?_cons_zero]; rfl)
            case hy12 => refine Or.inl ⟨by rfl, ?_⟩; intro w hSw; (try dsimp only at hSw); go_simp <;> with_reducible rfl
            case hQ12 => exact fun _ _ _ h => h
            try simp only [Act.put, List.setIfInBounds_toArray, List.set_cons_zero, List.set_cons_succ]
            refine' wpAnyH_take (i := 13) (v := _) ?hi13 (by kernel_rfl) (by kernel_rfl) (by kernel_rfl) ?hQ13 ?hy13 (by assumption) ?_
            case hi13 => (simp only [List.getElem?_toArray, List.getElem?_cons_succ, List.getElem?_cons_zero]; rfl)
            case hy13 => refine Or.inl ⟨by rfl, ?_⟩; intro w hSw; (try dsimp only at hSw); go_simp <;> with_reducible rfl
            case hQ13 => exact fun _ _ _ h => h
            try simp only [Act.put, List.setIfInBounds_toArray, List.set_cons_zero, List.set_cons_succ]
            refine' wpAnyH_take (i := 14) (v := _) ?hi14 (by kernel_rfl) (by kernel_rfl) (by kernel_rfl) ?hQ14 ?hy14 (by assumption) ?_
            case hi14 => (simp only [List.getElem?_toArray, List.getElem?_cons_succ, List.getElem?_cons_zero]; rfl)
            case hy14 => refine Or.inl ⟨by rfl, ?_⟩; intro w hSw; (try dsimp only at hSw); go_simp <;> with_reducible rfl
            case hQ14 => exact fun _ _ _ h => h
            try simp only [Act.put, List.setIfInBounds_toArray, List.set_cons_zero, List.set_cons_succ]
            refine' wpAnyH_take (i := 15) (v := _) ?hi15 (by kernel_rfl) (by kernel_rfl) (by kernel_rfl) ?hQ15 ?hy15 (by assumption) ?_
            case hi15 => (simp only [List.getElem?_toArray, List.getElem?_cons_succ, List.getElem?_cons_zero]; rfl)
            case hy15 => refine Or.inl ⟨by rfl, ?_⟩; intro w hSw; (try dsimp only at hSw); go_simp <;> with_reducible rfl
            case hQ15 => exact fun _ _ _ h => h
            try simp only [Act.put, List.setIfInBounds_toArray, List.set_cons_zero, List.set_cons_succ]
            refine wpAnyH_done (by kernel_rfl) ?_ _
            go_wp2
            go_roundw
            case rel => exact ⟨k + 1, by omega, by rw [HCT.out], by go_num, E10.trans (by repeat (first | with_reducible assumption | with_reducible exact Ext.refl _ | with_reducible apply Ext.alloc | with_reducible apply Ext.drew | with_reducible apply Ext.drewN))⟩
            case measure => first | (simp [intOf]; done) | (simp [intOf]; omega)
          · obtain rfl : n = k := by omega
            rw [List.take_of_length_le (by rw [HZL.out]; omega)]
            have hV9 := hV.ext E9
            have hW9 := hW.ext E9
            have BO9 := BO.ext E9
            have hsz9 := Nat.le_trans hwx E9.size
            have CN9 := BO9.cells
            have FN9 := BO9.frozen
            have hapV : Apart (fpI K) (fpI W) := (Apart.of_low hlw hV.high).symm
            have HR1 : Hid ((List.range (t + 1)).map (fun j => cColS q Zl j 0) = (List.range t).map (fun j => cColS q Zl j 0) ++ [cColS q Zl t 0]) := by show _ = _; rw [List.range_succ, List.map_append, List.map_cons, List.map_nil]
            generalize cColS q Zl t 0 = v9 at *
            go_wp2_with (at_builtin; refine wpList_app1F intSl rfl _ _ rfl hV9 rfl rfl rfl (by omega) hsz9 ?_; intro K2 d2 w2 hK2 hon hli; have BO10 := Blk.only BO9 hon (Blk.off_own BO9 hV9.w (by decide)); have FN := BO10.frozen; have CN := BO10.cells)
            have E10 := (E8.trans E9).only hon (hV9.high.mono hxx)
            have hW10 := OwnI.only hW9 hon hapV.symm
            have hs9 : wy.heap.size ≤ w2.heap.size := Nat.le_trans hsz9 hon.size
            rw [← HR1.out] at hK2
            clear CN9 FN9 BO9 hV9 hW9 hV hW BO E9
            go_roundw
            case rel => exact ⟨t + 1, K2, d2, by omega, by go_num, BO10.set_ 1 _, hK2.keepBlk BO10 (by decide) ((Only.refl _ _).setCell (by simp) _), hW10.keepBlk BO10 (by decide) ((Only.refl _ _).setCell (by simp) _), by simpa using hs9, E10.setCell (by simp) _⟩
            case measure => first | (simp [intOf]; done) | (simp [intOf]; omega)
        · obtain rfl : p2 = t := by omega
          have oK : OwnK wr ws.heap.size W p1 wc K p2 vc (rhV p q g cs ixs ds).1 (rhV p q g cs ixs ds).2 := by
            rw [HVV.out]
            exact ⟨hW, hV.more hxx, Apart.of_low hlw hV.high⟩
          have BF := BR.ext E8
          have FZ := BF.frozen
          have CN := BF.cells
          have CB := BO.cells
          have CZ := ((BF.set_ 0 (.slice W p1 wc)).set_ 1 (.slice K p2 vc)).cells
          have hX8 := hX'.ext E8
          have hx9 := hX'.len
          rw [castL_length] at hx9
          go_wp2
          refine bodyPost_ret (v := .tuple #[.agg #[.slice W p1 wc, .slice K p2 vc], .slice X x xc, .bool true]) (by simp [results, Try.results6, CZ, go_sem]) rfl ⟨W, p1, wc, K, p2, vc, X, x, xc, by rw [HV.out], (oK.keepBlk BF (by decide) (only_two _ _ _ _ _ _)).more (by first | exact Nat.le_refl _ | omega | (simp; done) | (simp; omega)), by rw [HVO.out]; exact (hX8.keepBlk BF (by decide) (only_two _ _ _ _ _ _)).more (by first | exact Nat.le_refl _ | omega | (simp; done) | (simp; omega)), by omega, Apart.of_high hXlo oK.high, (EZ.trans E8).only1 (by first | exact Nat.le_refl _ | omega | (simp; done) | (simp; omega)) (only_two _ _ _ _ _ _)⟩
end Go.Proofs.Ytnhdohjlbchniaa
