/- Contracts for SumShares: the program's and the reference's. (Printed by tools/gen_ss.py.) -/
import Derived.Test.YthamimjejlicpaaProg
import Derived.Test.YthamimjejlicpaaPlus2
import Derived.Test.YthamimjejlicpaaDeal
import Derived.Test.YthamimjejlicpaaMsk
namespace Go.Proofs.Ythamimjejlicpaa
open Go.RowKit

/-- All dealings of a list have n commitments and m shares. -/
def shpB (n m : Nat) (ds : List (List Int × List Int)) : Bool := ds.all fun d => decide (d.1.length = n) && decide (d.2.length = m)
noncomputable def ssB (p q g : Int) (cs ss : List Int) (ds : List (List Int × List Int)) : Bool := keyG p q g cs ss && (dlsB p q ds && shpB cs.length ss.length ds)
noncomputable def ssV (p q g : Int) (cs ss : List Int) (ds : List (List Int × List Int)) : List Int × List Int := if ssB p q g cs ss ds then sumD p q (cs, ss) ds else ([], [])
theorem dl_rng {p q g : Int} {cs ss : List Int} (hg : grpB p q g = true) (h : dlB p q cs ss = true) : RngD q cs.length ss.length (cs, ss) := by
  simp only [dlB, Bool.and_eq_true] at h
  exact ⟨rfl, rfl, els_rg (grpB_in hg).p9 h.1.2, allR_iff.1 h.2.2⟩
theorem dls_in {p q : Int} {ds : List (List Int × List Int)} (h : dlsB p q ds = true) : ds.length ≤ 7 ∧ ∀ d ∈ ds, dlB p q d.1 d.2 = true := by
  simp only [dlsB, Bool.and_eq_true, decide_eq_true_eq, List.all_eq_true] at h
  exact h
theorem shp_in {n m : Nat} {ds : List (List Int × List Int)} (h : shpB n m ds = true) : ∀ d ∈ ds, d.1.length = n ∧ d.2.length = m := by
  simp only [shpB, List.all_eq_true, Bool.and_eq_true, decide_eq_true_eq] at h
  exact h
theorem ss_rng {p q g : Int} {cs ss : List Int} {ds : List (List Int × List Int)} (h1 : keyG p q g cs ss = true) (h2 : dlsB p q ds = true) (h3 : shpB cs.length ss.length ds = true) : ∀ x ∈ (cs, ss) :: ds, RngD q cs.length ss.length x := by
  have hk := h1
  simp only [keyG, Bool.and_eq_true] at hk
  intro x hx
  rcases List.mem_cons.1 hx with rfl | hx
  · exact dl_rng hk.1.2 hk.2
  · have h4 := dl_rng hk.1.2 ((dls_in h2).2 x hx)
    obtain ⟨e1, e2⟩ := shp_in h3 x hx
    rw [e1, e2] at h4
    exact h4
theorem shp_any (n m : Nat) (ds : List (List Int × List Int)) : (ds.any fun x => !(decide (x.1.length = n) && decide (x.2.length = m))) = !shpB n m ds := by
  unfold shpB
  rw [List.all_eq_not_any_not, Bool.not_not]
theorem shp_ans (n m : Nat) (w : World) (k : Nat) (ds : List (List Int × List Int)) (A : Option Addr) (c : Nat) (B : Option Addr) (d : Nat) (hB : Blk w k 62 #[.slice A n c, .slice B m d]) : AnsD 100 #[.pointer (some ⟨k, 0, none⟩)] w ds (fun x => !(decide (x.1.length = n) && decide (x.2.length = m))) := by
  refine ⟨fun args w => by kernel_rfl, fun x _ A1 n1 c1 A2 m1 d1 w' hE s1 s2 => ?_⟩
  have E := (Ext.refl w').alloc (.cells #[.slice A1 n1 c1, .slice A2 m1 d1] 113)
  have B0 := Blk.new w' 113 #[.slice A1 n1 c1, .slice A2 m1 d1]
  have C0 := B0.cells
  have C1 := (hB.ext (hE.trans E)).cells
  show Calls Try.prog _ _ _ (fun e w'' => e = .returned (.bool (!(decide (x.1.length = n) && decide (x.2.length = m)))) ∧ Ext w' w'')
  rw [s1.len, s2.len]
  obtain ⟨v, hv⟩ : ∃ v, (decide (n1 = n) && decide (m1 = m)) = v := ⟨_, rfl⟩
  rw [hv]
  have HV := Lib.hid hv
  clear hv
  go_enter Try.func100, Try.ntmps100
  go_wp2_with fail
  refine (sameShape_any A1 n1 c1 A2 m1 d1 A n c B m d _).mono ?_
  rintro en w2 ⟨he, hb⟩
  rw [HV.out] at he; subst he
  go_wp2
  go_ret
  exact ⟨rfl, E.trans hb⟩
set_option maxRecDepth 100000 in
set_option maxHeartbeats 4000000 in
theorem iSumShares_any (p q g : Int) (A : Option Addr) (n c : Nat) (B : Option Addr) (m d : Nat) (cs ss : List Int) (D : Option Addr) (r e : Nat) (ds : List (List Int × List Int)) (w : World) (ha : SlI w A n c cs) (hb : SlI w B m d ss) (hd : RdD w D ds) (hl : ds.length = r) (hr : r ≤ 1048576) :
    Calls Try.prog 41 #[.agg #[.int .i64 p, .int .i64 q, .int .i64 g], .agg #[.slice A n c, .slice B m d], .slice D r e] w fun en w' => ∃ A' n' c' B' m' d', en = .returned (.tuple #[.agg #[.slice A' n' c', .slice B' m' d'], .bool (ssB p q g cs ss ds)]) ∧ OwnK w' w.heap.size A' n' c' B' m' d' (ssV p q g cs ss ds).1 (ssV p q g cs ss ds).2 ∧ (n' ≤ 1000 ∧ m' ≤ 1000) ∧ Ext w w' := by
  have E := ((((Ext.refl w).alloc (.cells #[.int .i64 p, .int .i64 q, .int .i64 g] 25)).alloc (.cells #[.slice A n c, .slice B m d] 62)).alloc (.cells #[.slice none 0 0, .slice none 0 0] 62))
  have B0 := (((Blk.new w 25 #[.int .i64 p, .int .i64 q, .int .i64 g]).alloc (.cells #[.slice A n c, .slice B m d] 62)).alloc (.cells #[.slice none 0 0, .slice none 0 0] 62))
  have B1 := ((Blk.new (w.alloc (.cells #[.int .i64 p, .int .i64 q, .int .i64 g] 25)) 62 #[.slice A n c, .slice B m d]).alloc (.cells #[.slice none 0 0, .slice none 0 0] 62))
  have B2 := (Blk.new ((w.alloc (.cells #[.int .i64 p, .int .i64 q, .int .i64 g] 25)).alloc (.cells #[.slice A n c, .slice B m d] 62)) 62 #[.slice none 0 0, .slice none 0 0])
  simp only [World.size_alloc] at B1 B2
  cases h1 : keyG p q g cs ss
  · have H1 := Lib.hid h1
    have hv : ssB p q g cs ss ds = false := by simp only [ssB, h1, Bool.false_and]
    have hvv : ssV p q g cs ss ds = ([], []) := by unfold ssV; rw [hv]; rfl
    have HV := Lib.hid hv
    have HVV := Lib.hid hvv
    clear hv hvv
    clear h1
    go_enter Try.func41, Try.ntmps41
    have CC0 := B0.cells
    have CC1 := B1.cells
    have CC2 := B2.cells
    go_wp2_with fail
    refine (hasKey_any p q g A n c cs B m d ss _ (ha.ext E) (hb.ext E)).mono ?_
    rintro en w9 ⟨hen, hb9⟩
    rw [H1.out] at hen; subst hen
    replace E := E.trans hb9
    replace B0 := B0.ext hb9
    replace B1 := B1.ext hb9
    replace B2 := B2.ext hb9
    clear hb9 CC0 CC1 CC2
    have BF := B2
    have FZ := BF.frozen
    have CN := BF.cells
    have CZ := ((BF.set_ 0 (.slice none 0 0)).set_ 1 (.slice none 0 0)).cells
    go_wp2
    refine bodyPost_ret (v := .tuple #[.agg #[.slice none 0 0, .slice none 0 0], .bool false]) (by simp [results, Try.results41, CZ, go_sem]) rfl ⟨none, 0, 0, none, 0, 0, by rw [HV.out], by rw [HVV.out]; exact OwnK.nil _ _, by omega, (E).only1 (by first | exact Nat.le_refl _ | omega | (simp; done) | (simp; omega)) (only_two _ _ _ _ _ _)⟩
  have H1 := Lib.hid h1
  have HG := Lib.hid (grpB_in (keyG_in h1).2.1).bd
  cases h2 : dlsB p q ds
  · have H2 := Lib.hid h2
    have hv : ssB p q g cs ss ds = false := by simp only [ssB, h1, h2, Bool.true_and, Bool.false_and]
    have hvv : ssV p q g cs ss ds = ([], []) := by unfold ssV; rw [hv]; rfl
    have HV := Lib.hid hv
    have HVV := Lib.hid hvv
    clear hv hvv
    clear h1 h2
    go_enter Try.func41, Try.ntmps41
    have CC0 := B0.cells
    have CC1 := B1.cells
    have CC2 := B2.cells
    go_wp2_with fail
    refine (hasKey_any p q g A n c cs B m d ss _ (ha.ext E) (hb.ext E)).mono ?_
    rintro en w9 ⟨hen, hb9⟩
    rw [H1.out] at hen; subst hen
    replace E := E.trans hb9
    replace B0 := B0.ext hb9
    replace B1 := B1.ext hb9
    replace B2 := B2.ext hb9
    clear hb9 CC0 CC1 CC2
    have CC0 := B0.cells
    have CC1 := B1.cells
    have CC2 := B2.cells
    go_wp2_with fail
    refine (hasDealings_any p q g D r e ds _ HG.out (hd.ext E) hl (by unfold maxLen; omega)).mono ?_
    rintro en w9 ⟨hen, hb9⟩
    rw [H2.out] at hen; subst hen
    replace E := E.trans hb9
    replace B0 := B0.ext hb9
    replace B1 := B1.ext hb9
    replace B2 := B2.ext hb9
    clear hb9 CC0 CC1 CC2
    have BF := B2
    have FZ := BF.frozen
    have CN := BF.cells
    have CZ := ((BF.set_ 0 (.slice none 0 0)).set_ 1 (.slice none 0 0)).cells
    go_wp2
    refine bodyPost_ret (v := .tuple #[.agg #[.slice none 0 0, .slice none 0 0], .bool false]) (by simp [results, Try.results41, CZ, go_sem]) rfl ⟨none, 0, 0, none, 0, 0, by rw [HV.out], by rw [HVV.out]; exact OwnK.nil _ _, by omega, (E).only1 (by first | exact Nat.le_refl _ | omega | (simp; done) | (simp; omega)) (only_two _ _ _ _ _ _)⟩
  have H2 := Lib.hid h2
  cases h3 : shpB cs.length ss.length ds
  · have H3 := Lib.hid h3
    have hv : ssB p q g cs ss ds = false := by simp only [ssB, h1, h2, h3, Bool.true_and]
    have HA3 : Hid ((ds.any fun x => !(decide (x.1.length = n) && decide (x.2.length = m))) = true) := by
      show _ = true
      rw [← ha.len, ← hb.len, shp_any, h3]
      rfl
    have hvv : ssV p q g cs ss ds = ([], []) := by unfold ssV; rw [hv]; rfl
    have HV := Lib.hid hv
    have HVV := Lib.hid hvv
    clear hv hvv
    clear h1 h2 h3
    go_enter Try.func41, Try.ntmps41
    have CC0 := B0.cells
    have CC1 := B1.cells
    have CC2 := B2.cells
    go_wp2_with fail
    refine (hasKey_any p q g A n c cs B m d ss _ (ha.ext E) (hb.ext E)).mono ?_
    rintro en w9 ⟨hen, hb9⟩
    rw [H1.out] at hen; subst hen
    replace E := E.trans hb9
    replace B0 := B0.ext hb9
    replace B1 := B1.ext hb9
    replace B2 := B2.ext hb9
    clear hb9 CC0 CC1 CC2
    have CC0 := B0.cells
    have CC1 := B1.cells
    have CC2 := B2.cells
    go_wp2_with fail
    refine (hasDealings_any p q g D r e ds _ HG.out (hd.ext E) hl (by unfold maxLen; omega)).mono ?_
    rintro en w9 ⟨hen, hb9⟩
    rw [H2.out] at hen; subst hen
    replace E := E.trans hb9
    replace B0 := B0.ext hb9
    replace B1 := B1.ext hb9
    replace B2 := B2.ext hb9
    clear hb9 CC0 CC1 CC2
    have hAns : AnsD 100 #[.pointer (some ⟨w.heap.size + 1, 0, none⟩)] _ ds (fun x => !(decide (x.1.length = n) && decide (x.2.length = m))) := shp_ans n m _ _ ds A c B d B1
    have CC0 := B0.cells
    have CC1 := B1.cells
    have CC2 := B2.cells
    go_wp2_with fail
    refine (ContainsFuncD_any D r e ds _ _ _ _ (hd.ext E) hl (by unfold maxLen; omega) hAns).mono ?_
    rintro en w9 ⟨hen, hb9⟩
    rw [HA3.out] at hen; subst hen
    replace E := E.trans hb9
    replace B0 := B0.ext hb9
    replace B1 := B1.ext hb9
    replace B2 := B2.ext hb9
    clear hb9 CC0 CC1 CC2
    clear hAns
    have BF := B2
    have FZ := BF.frozen
    have CN := BF.cells
    have CZ := ((BF.set_ 0 (.slice none 0 0)).set_ 1 (.slice none 0 0)).cells
    go_wp2
    refine bodyPost_ret (v := .tuple #[.agg #[.slice none 0 0, .slice none 0 0], .bool false]) (by simp [results, Try.results41, CZ, go_sem]) rfl ⟨none, 0, 0, none, 0, 0, by rw [HV.out], by rw [HVV.out]; exact OwnK.nil _ _, by omega, (E).only1 (by first | exact Nat.le_refl _ | omega | (simp; done) | (simp; omega)) (only_two _ _ _ _ _ _)⟩
  have H3 := Lib.hid h3
  have HA3 : Hid ((ds.any fun x => !(decide (x.1.length = n) && decide (x.2.length = m))) = false) := by
    show _ = false
    rw [← ha.len, ← hb.len, shp_any, h3]
    rfl
  have hr9 := ss_rng h1 h2 h3
  obtain ⟨hq7, hgg, h3c, h4c, h5, h6⟩ := keyG_in h1
  have hG := grpB_in hgg
  have hq2 := hG.q2
  have hp9 := hG.p9
  have hqp := hG.qp
  have h7 := (dls_in h2).1
  have hv : ssB p q g cs ss ds = true := by simp only [ssB, h1, h2, h3, Bool.and_self]
  have hvv : ssV p q g cs ss ds = sumD p q (cs, ss) ds := by unfold ssV; rw [hv]; rfl
  rw [ha.len, hb.len] at hr9
  have hlc := ha.len
  have hls := hb.len
  rw [hlc] at h3c h5
  rw [hls] at h5
  have HV := Lib.hid hv
  have HVV := Lib.hid hvv
  have HR := Lib.hid hr9
  have HL := Lib.hid hl
  clear hv hvv h4c h6 hr9 hgg
  clear h1 h2 h3
  go_enter Try.func41, Try.ntmps41
  have CC0 := B0.cells
  have CC1 := B1.cells
  have CC2 := B2.cells
  go_wp2_with fail
  refine (hasKey_any p q g A n c cs B m d ss _ (ha.ext E) (hb.ext E)).mono ?_
  rintro en w9 ⟨hen, hb9⟩
  rw [H1.out] at hen; subst hen
  replace E := E.trans hb9
  replace B0 := B0.ext hb9
  replace B1 := B1.ext hb9
  replace B2 := B2.ext hb9
  clear hb9 CC0 CC1 CC2
  have CC0 := B0.cells
  have CC1 := B1.cells
  have CC2 := B2.cells
  go_wp2_with fail
  refine (hasDealings_any p q g D r e ds _ HG.out (hd.ext E) hl (by unfold maxLen; omega)).mono ?_
  rintro en w9 ⟨hen, hb9⟩
  rw [H2.out] at hen; subst hen
  replace E := E.trans hb9
  replace B0 := B0.ext hb9
  replace B1 := B1.ext hb9
  replace B2 := B2.ext hb9
  clear hb9 CC0 CC1 CC2
  have hAns : AnsD 100 #[.pointer (some ⟨w.heap.size + 1, 0, none⟩)] _ ds (fun x => !(decide (x.1.length = n) && decide (x.2.length = m))) := shp_ans n m _ _ ds A c B d B1
  have CC0 := B0.cells
  have CC1 := B1.cells
  have CC2 := B2.cells
  go_wp2_with fail
  refine (ContainsFuncD_any D r e ds _ _ _ _ (hd.ext E) hl (by unfold maxLen; omega) hAns).mono ?_
  rintro en w9 ⟨hen, hb9⟩
  rw [HA3.out] at hen; subst hen
  replace E := E.trans hb9
  replace B0 := B0.ext hb9
  replace B1 := B1.ext hb9
  replace B2 := B2.ext hb9
  clear hb9 CC0 CC1 CC2
  clear hAns
  have CC0 := B0.cells
  have CC1 := B1.cells
  go_wp2_with fail
  refine (plus_any p q g A n c cs B m d ss D r e ds _ hG.bd (by omega) (by omega) (ha.ext E) (hb.ext E) (hd.ext E) HL.out (by omega) (by omega) (by omega) HR.out).mono ?_
  rintro en w8 ⟨A5, c5, A6, c6, rfl, o5, hb8⟩
  have BF := B2.ext hb8
  have FZ := BF.frozen
  have CN := BF.cells
  have CZ := ((BF.set_ 0 (.slice A5 n c5)).set_ 1 (.slice A6 m c6)).cells
  have hwz := E.size
  clear CC0 CC1
  go_wp2
  refine bodyPost_ret (v := .tuple #[.agg #[.slice A5 n c5, .slice A6 m c6], .bool true]) (by simp [results, Try.results41, CZ, go_sem]) rfl ⟨A5, n, c5, A6, m, c6, by rw [HV.out], by rw [HVV.out]; exact (o5.keepBlk BF (by decide) (only_two _ _ _ _ _ _)).more (by first | exact Nat.le_refl _ | omega | (simp; done) | (simp; omega)), by omega, (E.trans hb8).only1 (by first | exact Nat.le_refl _ | omega | (simp; done) | (simp; omega)) (only_two _ _ _ _ _ _)⟩
set_option maxRecDepth 100000 in
set_option maxHeartbeats 8000000 in
theorem sSumShares_any (p q g : Int) (A : Option Addr) (n c : Nat) (B : Option Addr) (m d : Nat) (cs ss : List Int) (D : Option Addr) (r e : Nat) (ds : List (List Int × List Int)) (w : World) (ha : SlI w A n c cs) (hb : SlI w B m d ss) (hd : RdD w D ds) (hl : ds.length = r) (hr : r ≤ 1048576) :
    Calls Try.prog 38 #[.agg #[.int .i64 p, .int .i64 q, .int .i64 g], .agg #[.slice A n c, .slice B m d], .slice D r e] w fun en w' => ∃ A' n' c' B' m' d', en = .returned (.tuple #[.agg #[.slice A' n' c', .slice B' m' d'], .bool (ssB p q g cs ss ds)]) ∧ OwnK w' w.heap.size A' n' c' B' m' d' (ssV p q g cs ss ds).1 (ssV p q g cs ss ds).2 ∧ (n' ≤ 1000 ∧ m' ≤ 1000) ∧ Ext w w' := by
  have E := ((((Ext.refl w).alloc (.cells #[.int .i64 p, .int .i64 q, .int .i64 g] 25)).alloc (.cells #[.slice A n c, .slice B m d] 62)).alloc (.cells #[.slice none 0 0, .slice none 0 0] 62))
  have B0 := (((Blk.new w 25 #[.int .i64 p, .int .i64 q, .int .i64 g]).alloc (.cells #[.slice A n c, .slice B m d] 62)).alloc (.cells #[.slice none 0 0, .slice none 0 0] 62))
  have B1 := ((Blk.new (w.alloc (.cells #[.int .i64 p, .int .i64 q, .int .i64 g] 25)) 62 #[.slice A n c, .slice B m d]).alloc (.cells #[.slice none 0 0, .slice none 0 0] 62))
  have B2 := (Blk.new ((w.alloc (.cells #[.int .i64 p, .int .i64 q, .int .i64 g] 25)).alloc (.cells #[.slice A n c, .slice B m d] 62)) 62 #[.slice none 0 0, .slice none 0 0])
  simp only [World.size_alloc] at B1 B2
  cases h1 : keyG p q g cs ss
  · have H1 := Lib.hid h1
    have hv : ssB p q g cs ss ds = false := by simp only [ssB, h1, Bool.false_and]
    have hvv : ssV p q g cs ss ds = ([], []) := by unfold ssV; rw [hv]; rfl
    have HV := Lib.hid hv
    have HVV := Lib.hid hvv
    clear hv hvv
    clear h1
    go_enter Try.func38, Try.ntmps38
    have CC0 := B0.cells
    have CC1 := B1.cells
    have CC2 := B2.cells
    go_wp2_with fail
    refine (rGood_any p q g A n c cs B m d ss _ (ha.ext E) (hb.ext E)).mono ?_
    rintro en w9 ⟨hen, hb9⟩
    rw [H1.out] at hen; subst hen
    replace E := E.trans hb9
    replace B0 := B0.ext hb9
    replace B1 := B1.ext hb9
    replace B2 := B2.ext hb9
    clear hb9 CC0 CC1 CC2
    have BF := B2
    have FZ := BF.frozen
    have CN := BF.cells
    have CZ := ((BF.set_ 0 (.slice none 0 0)).set_ 1 (.slice none 0 0)).cells
    go_wp2
    refine bodyPost_ret (v := .tuple #[.agg #[.slice none 0 0, .slice none 0 0], .bool false]) (by simp [results, Try.results38, CZ, go_sem]) rfl ⟨none, 0, 0, none, 0, 0, by rw [HV.out], by rw [HVV.out]; exact OwnK.nil _ _, by omega, (E).only1 (by first | exact Nat.le_refl _ | omega | (simp; done) | (simp; omega)) (only_two _ _ _ _ _ _)⟩
  have H1 := Lib.hid h1
  have HG := Lib.hid (grpB_in (keyG_in h1).2.1).bd
  cases h2 : dlsB p q ds
  · have H2 := Lib.hid h2
    have hv : ssB p q g cs ss ds = false := by simp only [ssB, h1, h2, Bool.true_and, Bool.false_and]
    have hvv : ssV p q g cs ss ds = ([], []) := by unfold ssV; rw [hv]; rfl
    have HV := Lib.hid hv
    have HVV := Lib.hid hvv
    clear hv hvv
    clear h1 h2
    go_enter Try.func38, Try.ntmps38
    have CC0 := B0.cells
    have CC1 := B1.cells
    have CC2 := B2.cells
    go_wp2_with fail
    refine (rGood_any p q g A n c cs B m d ss _ (ha.ext E) (hb.ext E)).mono ?_
    rintro en w9 ⟨hen, hb9⟩
    rw [H1.out] at hen; subst hen
    replace E := E.trans hb9
    replace B0 := B0.ext hb9
    replace B1 := B1.ext hb9
    replace B2 := B2.ext hb9
    clear hb9 CC0 CC1 CC2
    have CC0 := B0.cells
    have CC1 := B1.cells
    have CC2 := B2.cells
    go_wp2_with fail
    refine (rList_any p q g D r e ds _ HG.out (hd.ext E) hl (by unfold maxLen; omega)).mono ?_
    rintro en w9 ⟨hen, hb9⟩
    rw [H2.out] at hen; subst hen
    replace E := E.trans hb9
    replace B0 := B0.ext hb9
    replace B1 := B1.ext hb9
    replace B2 := B2.ext hb9
    clear hb9 CC0 CC1 CC2
    have BF := B2
    have FZ := BF.frozen
    have CN := BF.cells
    have CZ := ((BF.set_ 0 (.slice none 0 0)).set_ 1 (.slice none 0 0)).cells
    go_wp2
    refine bodyPost_ret (v := .tuple #[.agg #[.slice none 0 0, .slice none 0 0], .bool false]) (by simp [results, Try.results38, CZ, go_sem]) rfl ⟨none, 0, 0, none, 0, 0, by rw [HV.out], by rw [HVV.out]; exact OwnK.nil _ _, by omega, (E).only1 (by first | exact Nat.le_refl _ | omega | (simp; done) | (simp; omega)) (only_two _ _ _ _ _ _)⟩
  have H2 := Lib.hid h2
  have H1c := H1
  obtain ⟨v3, h3⟩ : ∃ v3, shpB cs.length ss.length ds = v3 := ⟨_, rfl⟩
  have hlc := ha.len
  have hls := hb.len
  have HLC := Lib.hid hlc
  have HLS := Lib.hid hls
  have hds := (dls_in h2).1
  have HSH := Lib.hid h3
  have HLD := Lib.hid hl
  clear h1 h2 h3 hlc hls
  go_enter Try.func38, Try.ntmps38
  have CC0 := B0.cells
  have CC1 := B1.cells
  have CC2 := B2.cells
  go_wp2_with fail
  refine (rGood_any p q g A n c cs B m d ss _ (ha.ext E) (hb.ext E)).mono ?_
  rintro en w9 ⟨hen, hb9⟩
  rw [H1.out] at hen; subst hen
  replace E := E.trans hb9
  replace B0 := B0.ext hb9
  replace B1 := B1.ext hb9
  replace B2 := B2.ext hb9
  clear hb9 CC0 CC1 CC2
  have CC0 := B0.cells
  have CC1 := B1.cells
  have CC2 := B2.cells
  go_wp2_with fail
  refine (rList_any p q g D r e ds _ HG.out (hd.ext E) hl (by unfold maxLen; omega)).mono ?_
  rintro en w9 ⟨hen, hb9⟩
  rw [H2.out] at hen; subst hen
  replace E := E.trans hb9
  replace B0 := B0.ext hb9
  replace B1 := B1.ext hb9
  replace B2 := B2.ext hb9
  clear hb9 CC0 CC1 CC2
  go_wp2
  go_loopw [23] (fun k wr => ∃ j : Nat, j ≤ ds.length ∧ k = .int .i64 j ∧ Hid (∀ i, (hi : i < ds.length) → i < j → ds[i].1.length = n ∧ ds[i].2.length = m) ∧ Ext w9 wr) (fun k _ => ds.length - (intOf k).toNat)
  case atStart => exact ⟨0, Nat.zero_le _, rfl, fun i _ h => absurd h (by omega), Ext.refl _⟩
  case round =>
    obtain ⟨j, hj, rfl, HP, E2⟩ := hrel
    by_cases hlt : j < ds.length
    · obtain ⟨ad, rfl, A1, n1, c1, A2, m1, d1, hc, hdd, s1, s2⟩ := (hd.ext (E.trans E2)).at_ hlt
      have hjr : j < r := by have := HLD.out; omega
      have E3 := E2.alloc (.cells #[.slice A1 n1 c1, .slice A2 m1 d1] 113)
      have B3 := Blk.new wr 113 #[.slice A1 n1 c1, .slice A2 m1 d1]
      have CC1 := (B1.ext E3).cells
      have CC3 := B3.cells
      have hl1 := s1.len
      have hl2 := s2.len
      by_cases hsh : n = n1 ∧ m = m1
      · obtain ⟨hs1, hs2⟩ := hsh
        have HE : Hid ((decide (n = n1) && decide (m = m1)) = true) := by show _ = true; rw [decide_eq_true hs1, decide_eq_true hs2]; rfl
        have HS1 := Lib.hid hs1
        have HS2 := Lib.hid hs2
        have HL1 := Lib.hid hl1
        have HL2 := Lib.hid hl2
        clear hs1 hs2 hl1 hl2
        go_wp2_with fail
        refine (rAlike_any A n c B m d A1 n1 c1 A2 m1 d1 _).mono ?_
        rintro en w4 ⟨hen, hb4⟩
        rw [HE.out] at hen; subst hen
        go_wp2
        go_roundw
        case rel =>
          refine ⟨j + 1, by omega, by go_num, fun i hi hij => ?_, E3.trans hb4⟩
          by_cases e : i = j
          · subst e; exact ⟨HL1.out.trans HS1.out.symm, HL2.out.trans HS2.out.symm⟩
          · exact HP.out i hi (by omega)
        case measure => simp [intOf]; omega
      · have HE : Hid ((decide (n = n1) && decide (m = m1)) = false) := by
          show _ = false
          rw [Bool.and_eq_false_iff, decide_eq_false_iff_not, decide_eq_false_iff_not]
          omega
        have hv3 : shpB cs.length ss.length ds = false := by
          unfold shpB
          rw [List.all_eq_false]
          refine ⟨ds[j], List.getElem_mem hlt, ?_⟩
          have e1 := HLC.out
          have e2 := HLS.out
          rw [Bool.and_eq_true, decide_eq_true_eq, decide_eq_true_eq]
          omega
        have hv : ssB p q g cs ss ds = false := by simp only [ssB, hv3, Bool.and_false]
        have hvv : ssV p q g cs ss ds = ([], []) := by unfold ssV; rw [hv]; rfl
        have HV := Lib.hid hv
        have HVV := Lib.hid hvv
        clear hv hvv
        clear hl1 hl2 hv3 hsh
        go_wp2_with fail
        refine (rAlike_any A n c B m d A1 n1 c1 A2 m1 d1 _).mono ?_
        rintro en w4 ⟨hen, hb4⟩
        rw [HE.out] at hen; subst hen
        have BF := B2.ext (E3.trans hb4)
        have FZ := BF.frozen
        have CN := BF.cells
        have CZ := ((BF.set_ 0 (.slice none 0 0)).set_ 1 (.slice none 0 0)).cells
        go_wp2
        refine bodyPost_ret (v := .tuple #[.agg #[.slice none 0 0, .slice none 0 0], .bool false]) (by simp [results, Try.results38, CZ, go_sem]) rfl ⟨none, 0, 0, none, 0, 0, by rw [HV.out], by rw [HVV.out]; exact OwnK.nil _ _, by omega, (E.trans (E3.trans hb4)).only1 (by first | exact Nat.le_refl _ | omega | (simp; done) | (simp; omega)) (only_two _ _ _ _ _ _)⟩
    · obtain rfl : j = ds.length := by omega
      have hge : ¬ (ds.length < r) := by have := HLD.out; omega
      have hsh : shpB cs.length ss.length ds = true := by
        unfold shpB
        rw [List.all_eq_true]
        intro x hx
        obtain ⟨i, hi, rfl⟩ := List.getElem_of_mem hx
        obtain ⟨e1, e2⟩ := HP.out i hi hi
        rw [e1, e2, HLC.out, HLS.out]
        simp
      have h1 := H1.out
      have h2 := H2.out
      have h3 := hsh
      replace E := E.trans E2
      replace B0 := B0.ext E2
      replace B1 := B1.ext E2
      replace B2 := B2.ext E2
      have hr9 := ss_rng h1 h2 h3
      obtain ⟨hq7, hgg, h3c, h4c, h5, h6⟩ := keyG_in h1
      have hG := grpB_in hgg
      have hq2 := hG.q2
      have hp9 := hG.p9
      have hqp := hG.qp
      have h7 := (dls_in h2).1
      have hv : ssB p q g cs ss ds = true := by simp only [ssB, h1, h2, h3, Bool.and_self]
      have hvv : ssV p q g cs ss ds = sumD p q (cs, ss) ds := by unfold ssV; rw [hv]; rfl
      rw [ha.len, hb.len] at hr9
      have hlc := ha.len
      have hls := hb.len
      rw [hlc] at h3c h5
      rw [hls] at h5
      clear hlc hls
      have HV := Lib.hid hv
      have HVV := Lib.hid hvv
      have HR := Lib.hid hr9
      have HL := HLD
      clear hv hvv h4c h6 hr9 hgg
      clear h1 h2 h3 hsh
      have CC0 := B0.cells
      have CC1 := B1.cells
      go_wp2_with fail
      refine (rSum_any p q g A n c cs B m d ss D r e ds _ hG.bd (by omega) (by omega) (ha.ext E) (hb.ext E) (hd.ext E) HL.out (by omega) (by omega) (by omega) HR.out).mono ?_
      rintro en w8 ⟨A5, c5, A6, c6, rfl, o5, hb8⟩
      have BF := B2.ext hb8
      have FZ := BF.frozen
      have CN := BF.cells
      have CZ := ((BF.set_ 0 (.slice A5 n c5)).set_ 1 (.slice A6 m c6)).cells
      have hwz := E.size
      clear CC0 CC1
      go_wp2
      refine bodyPost_ret (v := .tuple #[.agg #[.slice A5 n c5, .slice A6 m c6], .bool true]) (by simp [results, Try.results38, CZ, go_sem]) rfl ⟨A5, n, c5, A6, m, c6, by rw [HV.out], by rw [HVV.out]; exact (o5.keepBlk BF (by decide) (only_two _ _ _ _ _ _)).more (by first | exact Nat.le_refl _ | omega | (simp; done) | (simp; omega)), by omega, (E.trans hb8).only1 (by first | exact Nat.le_refl _ | omega | (simp; done) | (simp; omega)) (only_two _ _ _ _ _ _)⟩
end Go.Proofs.Ythamimjejlicpaa
