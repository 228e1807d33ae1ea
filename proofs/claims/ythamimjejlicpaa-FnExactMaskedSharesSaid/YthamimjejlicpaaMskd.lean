/- Contracts for MaskedShares: the program's and the reference's. (Printed by tools/gen_zero.py.) -/
import Derived.Test.YthamimjejlicpaaProg
import Derived.Test.YthamimjejlicpaaZero
namespace Go.Proofs.Ythamimjejlicpaa
open Go.RowKit

def zrB (p q g i : Int) (ds : List (List Int × List Int)) : Bool := ds.all fun d => zeroB p q g d.1 d.2 i
noncomputable def msB (p q g : Int) (cs ss : List Int) (i : Int) (ds : List (List Int × List Int)) : Bool := ssB p q g cs ss ds && (inR i 1 7 && zrB p q g i ds)
noncomputable def msV (p q g : Int) (cs ss : List Int) (i : Int) (ds : List (List Int × List Int)) : List Int × List Int := if msB p q g cs ss i ds then sumD p q (cs, ss) ds else ([], [])
theorem zr_any (p q g i : Int) (ds : List (List Int × List Int)) : (ds.any fun x => !zeroB p q g x.1 x.2 i) = !zrB p q g i ds := by
  unfold zrB
  rw [List.all_eq_not_any_not, Bool.not_not]
theorem ssB_in {p q g : Int} {cs ss : List Int} {ds : List (List Int × List Int)} (h : ssB p q g cs ss ds = true) : keyG p q g cs ss = true ∧ dlsB p q ds = true ∧ shpB cs.length ss.length ds = true := by
  simpa only [ssB, Bool.and_eq_true] using h
theorem msk_ans (p q g i : Int) (w : World) (k k2 : Nat) (ds : List (List Int × List Int)) (hg : grpB p q g = true) (hv : ∀ d ∈ ds, dlB p q d.1 d.2 = true) (hi : 0 ≤ i ∧ i ≤ 1000) (hB : Blk w k 25 #[.int .i64 p, .int .i64 q, .int .i64 g]) (hB2 : Blk w k2 3 #[.int .i64 i]) : AnsD 105 #[.pointer (some ⟨k, 0, none⟩), .pointer (some ⟨k2, 0, none⟩)] w ds (fun x => !zeroB p q g x.1 x.2 i) := by
  refine ⟨fun args w => by kernel_rfl, fun x hx A1 n1 c1 A2 m1 d1 w' hE s1 s2 => ?_⟩
  have E := (Ext.refl w').alloc (.cells #[.slice A1 n1 c1, .slice A2 m1 d1] 113)
  have B0 := Blk.new w' 113 #[.slice A1 n1 c1, .slice A2 m1 d1]
  have C0 := B0.cells
  have C1 := (hB.ext (hE.trans E)).cells
  have C2 := (hB2.ext (hE.trans E)).cells
  have hf := dlF hg (hv x hx)
  show Calls Try.prog _ _ _ (fun e w'' => e = .returned (.bool (!zeroB p q g x.1 x.2 i)) ∧ Ext w' w'')
  obtain ⟨v, hvz⟩ : ∃ v, zeroB p q g x.1 x.2 i = v := ⟨_, rfl⟩
  rw [hvz]
  have HV := Lib.hid hvz
  clear hvz
  go_enter Try.func105, Try.ntmps105
  go_wp2_with fail
  refine (isZero_any p q g A1 n1 c1 x.1 A2 m1 d1 x.2 i _ hg (s1.ext E) (s2.ext E) hf hi).mono ?_
  rintro en w2 ⟨he, hb⟩
  rw [HV.out] at he; subst he
  go_wp2
  go_ret
  exact ⟨rfl, E.trans hb⟩
set_option maxRecDepth 100000 in
set_option maxHeartbeats 4000000 in
theorem iMaskedShares_any (p q g : Int) (A : Option Addr) (n c : Nat) (B : Option Addr) (m d : Nat) (cs ss : List Int) (i : Int) (D : Option Addr) (r e : Nat) (ds : List (List Int × List Int)) (w : World) (ha : SlI w A n c cs) (hb : SlI w B m d ss) (hd : RdD w D ds) (hl : ds.length = r) (hr : r ≤ 1048576) :
    Calls Try.prog 50 #[.agg #[.int .i64 p, .int .i64 q, .int .i64 g], .agg #[.slice A n c, .slice B m d], .int .i64 i, .slice D r e] w fun en w' => ∃ A' n' c' B' m' d', en = .returned (.tuple #[.agg #[.slice A' n' c', .slice B' m' d'], .bool (msB p q g cs ss i ds)]) ∧ OwnK w' w.heap.size A' n' c' B' m' d' (msV p q g cs ss i ds).1 (msV p q g cs ss i ds).2 ∧ (n' ≤ 1000 ∧ m' ≤ 1000) ∧ Ext w w' := by
  have E := (((((Ext.refl w).alloc (.cells #[.int .i64 p, .int .i64 q, .int .i64 g] 25)).alloc (.cells #[.slice A n c, .slice B m d] 62)).alloc (.cells #[.int .i64 i] 3)).alloc (.cells #[.slice none 0 0, .slice none 0 0] 62))
  have B0 := ((((Blk.new w 25 #[.int .i64 p, .int .i64 q, .int .i64 g]).alloc (.cells #[.slice A n c, .slice B m d] 62)).alloc (.cells #[.int .i64 i] 3)).alloc (.cells #[.slice none 0 0, .slice none 0 0] 62))
  have B1 := (((Blk.new (w.alloc (.cells #[.int .i64 p, .int .i64 q, .int .i64 g] 25)) 62 #[.slice A n c, .slice B m d]).alloc (.cells #[.int .i64 i] 3)).alloc (.cells #[.slice none 0 0, .slice none 0 0] 62))
  have B2 := ((Blk.new ((w.alloc (.cells #[.int .i64 p, .int .i64 q, .int .i64 g] 25)).alloc (.cells #[.slice A n c, .slice B m d] 62)) 3 #[.int .i64 i]).alloc (.cells #[.slice none 0 0, .slice none 0 0] 62))
  have B3 := (Blk.new (((w.alloc (.cells #[.int .i64 p, .int .i64 q, .int .i64 g] 25)).alloc (.cells #[.slice A n c, .slice B m d] 62)).alloc (.cells #[.int .i64 i] 3)) 62 #[.slice none 0 0, .slice none 0 0])
  simp only [World.size_alloc] at B1 B2 B3
  cases h1 : ssB p q g cs ss ds
  · have H1 := Lib.hid h1
    have hv : msB p q g cs ss i ds = false := by simp only [msB, h1, Bool.false_and]
    have hvv : msV p q g cs ss i ds = ([], []) := by unfold msV; rw [hv]; rfl
    have HV := Lib.hid hv
    have HVV := Lib.hid hvv
    clear hv hvv
    clear h1
    go_enter Try.func50, Try.ntmps50
    have CC0 := B0.cells
    have CC1 := B1.cells
    go_wp2_with fail
    refine (iSumShares_any p q g A n c B m d cs ss D r e ds _ (ha.ext E) (hb.ext E) (hd.ext E) hl hr).mono ?_
    rintro en w5 ⟨A5, n5, c5, A6, m6, c6, hen, o5, N5, hb5⟩
    rw [H1.out] at hen; subst hen
    have hal := (Ext.refl w5).alloc (.cells #[.slice A5 n5 c5, .slice A6 m6 c6] 62)
    have hz5 := E.size
    replace E := (E.trans hb5).trans hal
    replace B0 := (B0.ext hb5).ext hal
    replace B1 := (B1.ext hb5).ext hal
    replace B2 := (B2.ext hb5).ext hal
    replace B3 := (B3.ext hb5).ext hal
    have BX := Blk.new w5 62 #[.slice A5 n5 c5, .slice A6 m6 c6]
    replace o5 := o5.ext hal
    clear hb5 hal CC0 CC1
    have CB2 := B2.cells
    have BF := B3
    have FZ := BF.frozen
    have CN := BF.cells
    have CZ := ((BF.set_ 0 (.slice none 0 0)).set_ 1 (.slice none 0 0)).cells
    go_wp2
    refine bodyPost_ret (v := .tuple #[.agg #[.slice none 0 0, .slice none 0 0], .bool false]) (by simp [results, Try.results50, CZ, go_sem]) rfl ⟨none, 0, 0, none, 0, 0, by rw [HV.out], by rw [HVV.out]; exact OwnK.nil _ _, by omega, (E).only1 (by first | exact Nat.le_refl _ | omega | (simp; done) | (simp; omega)) (only_two _ _ _ _ _ _)⟩
  have H1 := Lib.hid h1
  have HS := Lib.hid (ssB_in h1)
  cases h2 : inR i 1 7
  · have H2 := Lib.hid h2
    have hv : msB p q g cs ss i ds = false := by simp only [msB, h1, h2, Bool.true_and, Bool.false_and]
    have hvv : msV p q g cs ss i ds = ([], []) := by unfold msV; rw [hv]; rfl
    have HV := Lib.hid hv
    have HVV := Lib.hid hvv
    clear hv hvv
    clear h1 h2
    go_enter Try.func50, Try.ntmps50
    have CC0 := B0.cells
    have CC1 := B1.cells
    go_wp2_with fail
    refine (iSumShares_any p q g A n c B m d cs ss D r e ds _ (ha.ext E) (hb.ext E) (hd.ext E) hl hr).mono ?_
    rintro en w5 ⟨A5, n5, c5, A6, m6, c6, hen, o5, N5, hb5⟩
    rw [H1.out] at hen; subst hen
    have hal := (Ext.refl w5).alloc (.cells #[.slice A5 n5 c5, .slice A6 m6 c6] 62)
    have hz5 := E.size
    replace E := (E.trans hb5).trans hal
    replace B0 := (B0.ext hb5).ext hal
    replace B1 := (B1.ext hb5).ext hal
    replace B2 := (B2.ext hb5).ext hal
    replace B3 := (B3.ext hb5).ext hal
    have BX := Blk.new w5 62 #[.slice A5 n5 c5, .slice A6 m6 c6]
    replace o5 := o5.ext hal
    clear hb5 hal CC0 CC1
    have CB2 := B2.cells
    go_wp2_with fail
    refine (isTrustee_any i _).mono ?_
    rintro en w9 ⟨hen, rfl⟩
    rw [H2.out] at hen; subst hen
    have BF := B3
    have FZ := BF.frozen
    have CN := BF.cells
    have CZ := ((BF.set_ 0 (.slice none 0 0)).set_ 1 (.slice none 0 0)).cells
    go_wp2
    refine bodyPost_ret (v := .tuple #[.agg #[.slice none 0 0, .slice none 0 0], .bool false]) (by simp [results, Try.results50, CZ, go_sem]) rfl ⟨none, 0, 0, none, 0, 0, by rw [HV.out], by rw [HVV.out]; exact OwnK.nil _ _, by omega, (E).only1 (by first | exact Nat.le_refl _ | omega | (simp; done) | (simp; omega)) (only_two _ _ _ _ _ _)⟩
  have H2 := Lib.hid h2
  have HI : Hid (0 ≤ i ∧ i ≤ 1000) := by have := inR_iff.1 h2; show _ ∧ _; omega
  cases h3 : zrB p q g i ds
  · have H3 := Lib.hid h3
    have hv : msB p q g cs ss i ds = false := by simp only [msB, h1, h2, h3, Bool.true_and]
    have HA3 : Hid ((ds.any fun x => !zeroB p q g x.1 x.2 i) = true) := by
      show _ = true
      rw [zr_any, h3]
      rfl
    have hvv : msV p q g cs ss i ds = ([], []) := by unfold msV; rw [hv]; rfl
    have HV := Lib.hid hv
    have HVV := Lib.hid hvv
    clear hv hvv
    clear h1 h2 h3
    go_enter Try.func50, Try.ntmps50
    have CC0 := B0.cells
    have CC1 := B1.cells
    go_wp2_with fail
    refine (iSumShares_any p q g A n c B m d cs ss D r e ds _ (ha.ext E) (hb.ext E) (hd.ext E) hl hr).mono ?_
    rintro en w5 ⟨A5, n5, c5, A6, m6, c6, hen, o5, N5, hb5⟩
    rw [H1.out] at hen; subst hen
    have hal := (Ext.refl w5).alloc (.cells #[.slice A5 n5 c5, .slice A6 m6 c6] 62)
    have hz5 := E.size
    replace E := (E.trans hb5).trans hal
    replace B0 := (B0.ext hb5).ext hal
    replace B1 := (B1.ext hb5).ext hal
    replace B2 := (B2.ext hb5).ext hal
    replace B3 := (B3.ext hb5).ext hal
    have BX := Blk.new w5 62 #[.slice A5 n5 c5, .slice A6 m6 c6]
    replace o5 := o5.ext hal
    clear hb5 hal CC0 CC1
    have CB2 := B2.cells
    go_wp2_with fail
    refine (isTrustee_any i _).mono ?_
    rintro en w9 ⟨hen, rfl⟩
    rw [H2.out] at hen; subst hen
    have hAns : AnsD 105 #[.pointer (some ⟨w.heap.size, 0, none⟩), .pointer (some ⟨w.heap.size + 1 + 1, 0, none⟩)] _ ds (fun x => !zeroB p q g x.1 x.2 i) := msk_ans p q g i _ _ _ ds (keyG_in HS.out.1).2.1 (dls_in HS.out.2.1).2 HI.out B0 B2
    go_wp2_with fail
    refine (ContainsFuncD_any D r e ds _ _ _ _ (hd.ext E) hl (by unfold maxLen; omega) hAns).mono ?_
    rintro en w6 ⟨hen, hb6⟩
    rw [HA3.out] at hen; subst hen
    replace E := E.trans hb6
    replace B3 := B3.ext hb6
    replace BX := BX.ext hb6
    replace o5 := o5.ext hb6
    clear hb6 hAns
    have BF := B3
    have FZ := BF.frozen
    have CN := BF.cells
    have CZ := ((BF.set_ 0 (.slice none 0 0)).set_ 1 (.slice none 0 0)).cells
    go_wp2
    refine bodyPost_ret (v := .tuple #[.agg #[.slice none 0 0, .slice none 0 0], .bool false]) (by simp [results, Try.results50, CZ, go_sem]) rfl ⟨none, 0, 0, none, 0, 0, by rw [HV.out], by rw [HVV.out]; exact OwnK.nil _ _, by omega, (E).only1 (by first | exact Nat.le_refl _ | omega | (simp; done) | (simp; omega)) (only_two _ _ _ _ _ _)⟩
  have H3 := Lib.hid h3
  have HA3 : Hid ((ds.any fun x => !zeroB p q g x.1 x.2 i) = false) := by
    show _ = false
    rw [zr_any, h3]
    rfl
  have hv : msB p q g cs ss i ds = true := by simp only [msB, h1, h2, h3, Bool.and_self]
  have hvv : msV p q g cs ss i ds = ssV p q g cs ss ds := by unfold msV ssV; rw [hv, h1]
  have HV := Lib.hid hv
  have HVV := Lib.hid hvv
  clear hv hvv h1 h2 h3
  go_enter Try.func50, Try.ntmps50
  have CC0 := B0.cells
  have CC1 := B1.cells
  go_wp2_with fail
  refine (iSumShares_any p q g A n c B m d cs ss D r e ds _ (ha.ext E) (hb.ext E) (hd.ext E) hl hr).mono ?_
  rintro en w5 ⟨A5, n5, c5, A6, m6, c6, hen, o5, N5, hb5⟩
  rw [H1.out] at hen; subst hen
  have hal := (Ext.refl w5).alloc (.cells #[.slice A5 n5 c5, .slice A6 m6 c6] 62)
  have hz5 := E.size
  replace E := (E.trans hb5).trans hal
  replace B0 := (B0.ext hb5).ext hal
  replace B1 := (B1.ext hb5).ext hal
  replace B2 := (B2.ext hb5).ext hal
  replace B3 := (B3.ext hb5).ext hal
  have BX := Blk.new w5 62 #[.slice A5 n5 c5, .slice A6 m6 c6]
  replace o5 := o5.ext hal
  clear hb5 hal CC0 CC1
  have CB2 := B2.cells
  go_wp2_with fail
  refine (isTrustee_any i _).mono ?_
  rintro en w9 ⟨hen, rfl⟩
  rw [H2.out] at hen; subst hen
  have hAns : AnsD 105 #[.pointer (some ⟨w.heap.size, 0, none⟩), .pointer (some ⟨w.heap.size + 1 + 1, 0, none⟩)] _ ds (fun x => !zeroB p q g x.1 x.2 i) := msk_ans p q g i _ _ _ ds (keyG_in HS.out.1).2.1 (dls_in HS.out.2.1).2 HI.out B0 B2
  go_wp2_with fail
  refine (ContainsFuncD_any D r e ds _ _ _ _ (hd.ext E) hl (by unfold maxLen; omega) hAns).mono ?_
  rintro en w6 ⟨hen, hb6⟩
  rw [HA3.out] at hen; subst hen
  replace E := E.trans hb6
  replace B3 := B3.ext hb6
  replace BX := BX.ext hb6
  replace o5 := o5.ext hb6
  clear hb6 hAns
  have FZ := B3.frozen
  have CN := B3.cells
  have CX := BX.cells
  have CZ := ((B3.set_ 0 (.slice A5 n5 c5)).set_ 1 (.slice A6 m6 c6)).cells
  go_wp2
  refine bodyPost_ret (v := .tuple #[.agg #[.slice A5 n5 c5, .slice A6 m6 c6], .bool true]) (by simp [results, Try.results50, CZ, go_sem]) rfl ⟨A5, n5, c5, A6, m6, c6, by rw [HV.out], by rw [HVV.out]; exact (o5.keepBlk B3 (by decide) (only_two _ _ _ _ _ _)).more (by first | exact Nat.le_refl _ | omega | (simp; done) | (simp; omega)), N5, E.only1 (by first | exact Nat.le_refl _ | omega | (simp; done) | (simp; omega)) (only_two _ _ _ _ _ _)⟩
set_option maxRecDepth 100000 in
set_option maxHeartbeats 8000000 in
theorem sMaskedShares_any (p q g : Int) (A : Option Addr) (n c : Nat) (B : Option Addr) (m d : Nat) (cs ss : List Int) (i : Int) (D : Option Addr) (r e : Nat) (ds : List (List Int × List Int)) (w : World) (ha : SlI w A n c cs) (hb : SlI w B m d ss) (hd : RdD w D ds) (hl : ds.length = r) (hr : r ≤ 1048576) :
    Calls Try.prog 49 #[.agg #[.int .i64 p, .int .i64 q, .int .i64 g], .agg #[.slice A n c, .slice B m d], .int .i64 i, .slice D r e] w fun en w' => ∃ A' n' c' B' m' d', en = .returned (.tuple #[.agg #[.slice A' n' c', .slice B' m' d'], .bool (msB p q g cs ss i ds)]) ∧ OwnK w' w.heap.size A' n' c' B' m' d' (msV p q g cs ss i ds).1 (msV p q g cs ss i ds).2 ∧ (n' ≤ 1000 ∧ m' ≤ 1000) ∧ Ext w w' := by
  have E := ((((Ext.refl w).alloc (.cells #[.int .i64 p, .int .i64 q, .int .i64 g] 25)).alloc (.cells #[.slice A n c, .slice B m d] 62)).alloc (.cells #[.slice none 0 0, .slice none 0 0] 62))
  have B0 := (((Blk.new w 25 #[.int .i64 p, .int .i64 q, .int .i64 g]).alloc (.cells #[.slice A n c, .slice B m d] 62)).alloc (.cells #[.slice none 0 0, .slice none 0 0] 62))
  have B1 := ((Blk.new (w.alloc (.cells #[.int .i64 p, .int .i64 q, .int .i64 g] 25)) 62 #[.slice A n c, .slice B m d]).alloc (.cells #[.slice none 0 0, .slice none 0 0] 62))
  have B2 := (Blk.new ((w.alloc (.cells #[.int .i64 p, .int .i64 q, .int .i64 g] 25)).alloc (.cells #[.slice A n c, .slice B m d] 62)) 62 #[.slice none 0 0, .slice none 0 0])
  simp only [World.size_alloc] at B1 B2
  cases h1 : keyG p q g cs ss
  · have H1 := Lib.hid h1
    have hv : msB p q g cs ss i ds = false := by simp only [msB, ssB, h1, Bool.false_and]
    have hvv : msV p q g cs ss i ds = ([], []) := by unfold msV; rw [hv]; rfl
    have HV := Lib.hid hv
    have HVV := Lib.hid hvv
    clear hv hvv
    clear h1
    go_enter Try.func49, Try.ntmps49
    have CC0 := B0.cells
    have CC1 := B1.cells
    have CC2 := B2.cells
    go_wp2_with fail
    refine (rGood_any p q g A n c cs B m d ss _ (ha.ext E) (hb.ext E)).mono ?_
    rintro en w9 ⟨hen, hb9⟩
    rw [H1.out] at hen; subst hen
    replace E := E.trans hb9
    replace B0 := B0.ext hb9
    replace B1 := B1.ext hb9
    replace B2 := B2.ext hb9
    clear hb9 CC0 CC1 CC2
    have BF := B2
    have FZ := BF.frozen
    have CN := BF.cells
    have CZ := ((BF.set_ 0 (.slice none 0 0)).set_ 1 (.slice none 0 0)).cells
    go_wp2
    refine bodyPost_ret (v := .tuple #[.agg #[.slice none 0 0, .slice none 0 0], .bool false]) (by simp [results, Try.results49, CZ, go_sem]) rfl ⟨none, 0, 0, none, 0, 0, by rw [HV.out], by rw [HVV.out]; exact OwnK.nil _ _, by omega, (E).only1 (by first | exact Nat.le_refl _ | omega | (simp; done) | (simp; omega)) (only_two _ _ _ _ _ _)⟩
  have H1 := Lib.hid h1
  have HG := Lib.hid (grpB_in (keyG_in h1).2.1).bd
  cases h2 : dlsB p q ds
  · have H2 := Lib.hid h2
    have hv : msB p q g cs ss i ds = false := by simp only [msB, ssB, h1, h2, Bool.true_and, Bool.false_and]
    have hvv : msV p q g cs ss i ds = ([], []) := by unfold msV; rw [hv]; rfl
    have HV := Lib.hid hv
    have HVV := Lib.hid hvv
    clear hv hvv
    clear h1 h2
    go_enter Try.func49, Try.ntmps49
    have CC0 := B0.cells
    have CC1 := B1.cells
    have CC2 := B2.cells
    go_wp2_with fail
    refine (rGood_any p q g A n c cs B m d ss _ (ha.ext E) (hb.ext E)).mono ?_
    rintro en w9 ⟨hen, hb9⟩
    rw [H1.out] at hen; subst hen
    replace E := E.trans hb9
    replace B0 := B0.ext hb9
    replace B1 := B1.ext hb9
    replace B2 := B2.ext hb9
    clear hb9 CC0 CC1 CC2
    have CC0 := B0.cells
    have CC1 := B1.cells
    have CC2 := B2.cells
    go_wp2_with fail
    refine (rList_any p q g D r e ds _ HG.out (hd.ext E) hl (by unfold maxLen; omega)).mono ?_
    rintro en w9 ⟨hen, hb9⟩
    rw [H2.out] at hen; subst hen
    replace E := E.trans hb9
    replace B0 := B0.ext hb9
    replace B1 := B1.ext hb9
    replace B2 := B2.ext hb9
    clear hb9 CC0 CC1 CC2
    have BF := B2
    have FZ := BF.frozen
    have CN := BF.cells
    have CZ := ((BF.set_ 0 (.slice none 0 0)).set_ 1 (.slice none 0 0)).cells
    go_wp2
    refine bodyPost_ret (v := .tuple #[.agg #[.slice none 0 0, .slice none 0 0], .bool false]) (by simp [results, Try.results49, CZ, go_sem]) rfl ⟨none, 0, 0, none, 0, 0, by rw [HV.out], by rw [HVV.out]; exact OwnK.nil _ _, by omega, (E).only1 (by first | exact Nat.le_refl _ | omega | (simp; done) | (simp; omega)) (only_two _ _ _ _ _ _)⟩
  have H2 := Lib.hid h2
  cases h3 : inR i 1 7
  · have H3 := Lib.hid h3
    have hv : msB p q g cs ss i ds = false := by simp only [msB, h3, Bool.false_and, Bool.and_false]
    have hvv : msV p q g cs ss i ds = ([], []) := by unfold msV; rw [hv]; rfl
    have HV := Lib.hid hv
    have HVV := Lib.hid hvv
    clear hv hvv
    clear h1 h2 h3
    go_enter Try.func49, Try.ntmps49
    have CC0 := B0.cells
    have CC1 := B1.cells
    have CC2 := B2.cells
    go_wp2_with fail
    refine (rGood_any p q g A n c cs B m d ss _ (ha.ext E) (hb.ext E)).mono ?_
    rintro en w9 ⟨hen, hb9⟩
    rw [H1.out] at hen; subst hen
    replace E := E.trans hb9
    replace B0 := B0.ext hb9
    replace B1 := B1.ext hb9
    replace B2 := B2.ext hb9
    clear hb9 CC0 CC1 CC2
    have CC0 := B0.cells
    have CC1 := B1.cells
    have CC2 := B2.cells
    go_wp2_with fail
    refine (rList_any p q g D r e ds _ HG.out (hd.ext E) hl (by unfold maxLen; omega)).mono ?_
    rintro en w9 ⟨hen, hb9⟩
    rw [H2.out] at hen; subst hen
    replace E := E.trans hb9
    replace B0 := B0.ext hb9
    replace B1 := B1.ext hb9
    replace B2 := B2.ext hb9
    clear hb9 CC0 CC1 CC2
    have CC0 := B0.cells
    have CC1 := B1.cells
    have CC2 := B2.cells
    go_wp2_with fail
    refine (l1In_any i 1 7 _).mono ?_
    rintro en w9 ⟨hen, rfl⟩
    rw [H3.out] at hen; subst hen
    clear CC0 CC1 CC2
    have BF := B2
    have FZ := BF.frozen
    have CN := BF.cells
    have CZ := ((BF.set_ 0 (.slice none 0 0)).set_ 1 (.slice none 0 0)).cells
    go_wp2
    refine bodyPost_ret (v := .tuple #[.agg #[.slice none 0 0, .slice none 0 0], .bool false]) (by simp [results, Try.results49, CZ, go_sem]) rfl ⟨none, 0, 0, none, 0, 0, by rw [HV.out], by rw [HVV.out]; exact OwnK.nil _ _, by omega, (E).only1 (by first | exact Nat.le_refl _ | omega | (simp; done) | (simp; omega)) (only_two _ _ _ _ _ _)⟩
  have H3 := Lib.hid h3
  have hlc := ha.len
  have hls := hb.len
  have HLC := Lib.hid hlc
  have HLS := Lib.hid hls
  have HGG := Lib.hid (keyG_in h1).2.1
  have HDV := Lib.hid (dls_in h2).2
  have hds := (dls_in h2).1
  have HLD := Lib.hid hl
  have HI : Hid (0 ≤ i ∧ i ≤ 1000) := by have := inR_iff.1 h3; show _ ∧ _; omega
  clear h1 h2 h3 hlc hls
  go_enter Try.func49, Try.ntmps49
  have CC0 := B0.cells
  have CC1 := B1.cells
  have CC2 := B2.cells
  go_wp2_with fail
  refine (rGood_any p q g A n c cs B m d ss _ (ha.ext E) (hb.ext E)).mono ?_
  rintro en w9 ⟨hen, hb9⟩
  rw [H1.out] at hen; subst hen
  replace E := E.trans hb9
  replace B0 := B0.ext hb9
  replace B1 := B1.ext hb9
  replace B2 := B2.ext hb9
  clear hb9 CC0 CC1 CC2
  have CC0 := B0.cells
  have CC1 := B1.cells
  have CC2 := B2.cells
  go_wp2_with fail
  refine (rList_any p q g D r e ds _ HG.out (hd.ext E) hl (by unfold maxLen; omega)).mono ?_
  rintro en w9 ⟨hen, hb9⟩
  rw [H2.out] at hen; subst hen
  replace E := E.trans hb9
  replace B0 := B0.ext hb9
  replace B1 := B1.ext hb9
  replace B2 := B2.ext hb9
  clear hb9 CC0 CC1 CC2
  have CC0 := B0.cells
  have CC1 := B1.cells
  have CC2 := B2.cells
  go_wp2_with fail
  refine (l1In_any i 1 7 _).mono ?_
  rintro en w9 ⟨hen, rfl⟩
  rw [H3.out] at hen; subst hen
  clear CC0 CC1 CC2
  go_wp2
  go_loopw [30] (fun k wr => ∃ j : Nat, j ≤ ds.length ∧ k = .int .i64 j ∧ Hid (∀ i', (hi : i' < ds.length) → i' < j → (ds[i'].1.length = n ∧ ds[i'].2.length = m) ∧ zeroB p q g ds[i'].1 ds[i'].2 i = true) ∧ Ext w9 wr) (fun k _ => ds.length - (intOf k).toNat)
  case atStart => exact ⟨0, Nat.zero_le _, rfl, fun i _ h => absurd h (by omega), Ext.refl _⟩
  case round =>
    obtain ⟨j, hj, rfl, HP, E2⟩ := hrel
    by_cases hlt : j < ds.length
    · obtain ⟨ad, rfl, A1, n1, c1, A2, m1, d1, hc, hdd, s1, s2⟩ := (hd.ext (E.trans E2)).at_ hlt
      have hjr : j < r := by have := HLD.out; omega
      have hdf := dlF HGG.out (HDV.out _ (List.getElem_mem hlt))
      have E3 := E2.alloc (.cells #[.slice A1 n1 c1, .slice A2 m1 d1] 113)
      have hx := (Ext.refl wr).alloc (.cells #[.slice A1 n1 c1, .slice A2 m1 d1] 113)
      have B3 := Blk.new wr 113 #[.slice A1 n1 c1, .slice A2 m1 d1]
      have CC1 := (B1.ext E3).cells
      have CC3 := B3.cells
      have hl1 := s1.len
      have hl2 := s2.len
      by_cases hsh : n = n1 ∧ m = m1
      · obtain ⟨hs1, hs2⟩ := hsh
        have HE : Hid ((decide (n = n1) && decide (m = m1)) = true) := by show _ = true; rw [decide_eq_true hs1, decide_eq_true hs2]; rfl
        have HS1 := Lib.hid hs1
        have HS2 := Lib.hid hs2
        have HL1 := Lib.hid hl1
        have HL2 := Lib.hid hl2
        clear hs1 hs2 hl1 hl2
        cases hz : zeroB p q g ds[j].1 ds[j].2 i
        · have HZ := Lib.hid hz
          have hv3 : zrB p q g i ds = false := by
            unfold zrB
            rw [List.all_eq_false]
            exact ⟨ds[j], List.getElem_mem hlt, by rw [hz]; simp⟩
          have hv : msB p q g cs ss i ds = false := by simp only [msB, hv3, Bool.and_false]
          have hvv : msV p q g cs ss i ds = ([], []) := by unfold msV; rw [hv]; rfl
          have HV := Lib.hid hv
          have HVV := Lib.hid hvv
          clear hv hvv
          clear hz hv3
          go_wp2_with fail
          refine (rAlike_any A n c B m d A1 n1 c1 A2 m1 d1 _).mono ?_
          rintro en w4 ⟨hen, hb4⟩
          rw [HE.out] at hen; subst hen
          have CC0 := (B0.ext (E3.trans hb4)).cells
          have CC4 := (B3.ext hb4).cells
          go_wp2_with fail
          refine (rZero_any p q g A1 n1 c1 _ A2 m1 d1 _ i _ HGG.out (s1.ext (hx.trans hb4)) (s2.ext (hx.trans hb4)) hdf HI.out).mono ?_
          rintro en w5 ⟨hen, hb5⟩
          rw [HZ.out] at hen; subst hen
          have BF := B2.ext (E3.trans (hb4.trans hb5))
          have FZ := BF.frozen
          have CN := BF.cells
          have CZ := ((BF.set_ 0 (.slice none 0 0)).set_ 1 (.slice none 0 0)).cells
          go_wp2
          refine bodyPost_ret (v := .tuple #[.agg #[.slice none 0 0, .slice none 0 0], .bool false]) (by simp [results, Try.results49, CZ, go_sem]) rfl ⟨none, 0, 0, none, 0, 0, by rw [HV.out], by rw [HVV.out]; exact OwnK.nil _ _, by omega, (E.trans (E3.trans (hb4.trans hb5))).only1 (by first | exact Nat.le_refl _ | omega | (simp; done) | (simp; omega)) (only_two _ _ _ _ _ _)⟩
        · have HZ := Lib.hid hz
          clear hz
          go_wp2_with fail
          refine (rAlike_any A n c B m d A1 n1 c1 A2 m1 d1 _).mono ?_
          rintro en w4 ⟨hen, hb4⟩
          rw [HE.out] at hen; subst hen
          have CC0 := (B0.ext (E3.trans hb4)).cells
          have CC4 := (B3.ext hb4).cells
          go_wp2_with fail
          refine (rZero_any p q g A1 n1 c1 _ A2 m1 d1 _ i _ HGG.out (s1.ext (hx.trans hb4)) (s2.ext (hx.trans hb4)) hdf HI.out).mono ?_
          rintro en w5 ⟨hen, hb5⟩
          rw [HZ.out] at hen; subst hen
          go_wp2
          go_roundw
          case rel =>
            refine ⟨j + 1, by omega, by go_num, fun i' hi hij => ?_, (E3.trans hb4).trans hb5⟩
            by_cases e : i' = j
            · subst e; exact ⟨⟨HL1.out.trans HS1.out.symm, HL2.out.trans HS2.out.symm⟩, HZ.out⟩
            · exact HP.out i' hi (by omega)
          case measure => simp [intOf]; omega
      · have HE : Hid ((decide (n = n1) && decide (m = m1)) = false) := by
          show _ = false
          rw [Bool.and_eq_false_iff, decide_eq_false_iff_not, decide_eq_false_iff_not]
          omega
        have hv3 : shpB cs.length ss.length ds = false := by
          unfold shpB
          rw [List.all_eq_false]
          refine ⟨ds[j], List.getElem_mem hlt, ?_⟩
          have e1 := HLC.out
          have e2 := HLS.out
          rw [Bool.and_eq_true, decide_eq_true_eq, decide_eq_true_eq]
          omega
        have hv : msB p q g cs ss i ds = false := by simp only [msB, ssB, hv3, Bool.and_false, Bool.false_and]
        have hvv : msV p q g cs ss i ds = ([], []) := by unfold msV; rw [hv]; rfl
        have HV := Lib.hid hv
        have HVV := Lib.hid hvv
        clear hv hvv
        clear hl1 hl2 hv3 hsh
        go_wp2_with fail
        refine (rAlike_any A n c B m d A1 n1 c1 A2 m1 d1 _).mono ?_
        rintro en w4 ⟨hen, hb4⟩
        rw [HE.out] at hen; subst hen
        have BF := B2.ext (E3.trans hb4)
        have FZ := BF.frozen
        have CN := BF.cells
        have CZ := ((BF.set_ 0 (.slice none 0 0)).set_ 1 (.slice none 0 0)).cells
        go_wp2
        refine bodyPost_ret (v := .tuple #[.agg #[.slice none 0 0, .slice none 0 0], .bool false]) (by simp [results, Try.results49, CZ, go_sem]) rfl ⟨none, 0, 0, none, 0, 0, by rw [HV.out], by rw [HVV.out]; exact OwnK.nil _ _, by omega, (E.trans (E3.trans hb4)).only1 (by first | exact Nat.le_refl _ | omega | (simp; done) | (simp; omega)) (only_two _ _ _ _ _ _)⟩
    · obtain rfl : j = ds.length := by omega
      have hge : ¬ (ds.length < r) := by have := HLD.out; omega
      have h3 : shpB cs.length ss.length ds = true := by
        unfold shpB
        rw [List.all_eq_true]
        intro x hx
        obtain ⟨i', hi, rfl⟩ := List.getElem_of_mem hx
        obtain ⟨⟨e1, e2⟩, _⟩ := HP.out i' hi hi
        rw [e1, e2, HLC.out, HLS.out]
        simp
      have h9 : zrB p q g i ds = true := by
        unfold zrB
        rw [List.all_eq_true]
        intro x hx
        obtain ⟨i', hi, rfl⟩ := List.getElem_of_mem hx
        exact (HP.out i' hi hi).2
      have h1 := H1.out
      have h2 := H2.out
      have h4 := H3.out
      replace E := E.trans E2
      replace B0 := B0.ext E2
      replace B1 := B1.ext E2
      replace B2 := B2.ext E2
      have hr9 := ss_rng h1 h2 h3
      obtain ⟨hq7, hgg, h3c, h4c, h5, h6⟩ := keyG_in h1
      have hG := grpB_in hgg
      have hq2 := hG.q2
      have hp9 := hG.p9
      have hqp := hG.qp
      have h7 := (dls_in h2).1
      have hv : msB p q g cs ss i ds = true := by simp only [msB, ssB, h1, h2, h3, h4, h9, Bool.and_self]
      have hvv : msV p q g cs ss i ds = sumD p q (cs, ss) ds := by unfold msV; rw [hv]; rfl
      rw [ha.len, hb.len] at hr9
      have hlc := ha.len
      have hls := hb.len
      rw [hlc] at h3c h5
      rw [hls] at h5
      clear hlc hls
      have HV := Lib.hid hv
      have HVV := Lib.hid hvv
      have HR := Lib.hid hr9
      have HL := HLD
      clear hv hvv h4c h6 hr9 hgg h1 h2 h3 h4 h9
      have CC0 := B0.cells
      have CC1 := B1.cells
      go_wp2_with fail
      refine (rSum_any p q g A n c cs B m d ss D r e ds _ hG.bd (by omega) (by omega) (ha.ext E) (hb.ext E) (hd.ext E) HL.out (by omega) (by omega) (by omega) HR.out).mono ?_
      rintro en w8 ⟨A5, c5, A6, c6, rfl, o5, hb8⟩
      have BF := B2.ext hb8
      have FZ := BF.frozen
      have CN := BF.cells
      have CZ := ((BF.set_ 0 (.slice A5 n c5)).set_ 1 (.slice A6 m c6)).cells
      have hwz := E.size
      clear CC0 CC1
      go_wp2
      refine bodyPost_ret (v := .tuple #[.agg #[.slice A5 n c5, .slice A6 m c6], .bool true]) (by simp [results, Try.results49, CZ, go_sem]) rfl ⟨A5, n, c5, A6, m, c6, by rw [HV.out], by rw [HVV.out]; exact (o5.keepBlk BF (by decide) (only_two _ _ _ _ _ _)).more (by first | exact Nat.le_refl _ | omega | (simp; done) | (simp; omega)), by omega, (E.trans hb8).only1 (by first | exact Nat.le_refl _ | omega | (simp; done) | (simp; omega)) (only_two _ _ _ _ _ _)⟩
end Go.Proofs.Ythamimjejlicpaa
