/- Contracts for RecoverMasked: the program's and the reference's. (Printed by tools/gen_msk.py.) -/
import Derived.Test.YthamimjejlicpaaProg
import Derived.Test.YthamimjejlicpaaDlG
namespace Go.Proofs.Ythamimjejlicpaa
open Go.RowKit

/-- The others' numbers and shares. -/
def mkI (ss : List Int) (i lost : Int) : Nat → List Int × List Int
  | 0 => ([], [])
  | k + 1 => if ((k : Int) + 1 ≠ i ∧ (k : Int) + 1 ≠ lost) then ((mkI ss i lost k).1 ++ [(k : Int) + 1], (mkI ss i lost k).2 ++ [ss.getD k 0]) else mkI ss i lost k
theorem mkI_len (ss : List Int) (i lost : Int) : ∀ k, (mkI ss i lost k).2.length = (mkI ss i lost k).1.length ∧ (mkI ss i lost k).1.length ≤ k
  | 0 => ⟨rfl, Nat.le_refl _⟩
  | k + 1 => by
    have ih := mkI_len ss i lost k
    unfold mkI
    split
    · simp; omega
    · omega
theorem mkI_rg (ss : List Int) (i lost : Int) : ∀ k, ∀ y ∈ (mkI ss i lost k).1, 1 ≤ y ∧ y ≤ k
  | 0, y, hy => by cases hy
  | k + 1, y, hy => by
    have ih := mkI_rg ss i lost k y
    unfold mkI at hy
    split at hy
    · rcases List.mem_append.1 hy with h1 | h1
      · have := ih h1; omega
      · have := List.mem_singleton.1 h1; omega
    · have := ih hy; omega
theorem mkI_nd (ss : List Int) (i lost : Int) : ∀ k, (mkI ss i lost k).1.Nodup
  | 0 => by simp [mkI]
  | k + 1 => by
    have ih := mkI_nd ss i lost k
    have hr := mkI_rg ss i lost k
    unfold mkI
    split
    · refine List.nodup_append.2 ⟨ih, by simp, fun a ha b hb e => ?_⟩
      have := hr a ha
      rw [List.mem_singleton.1 hb] at e
      omega
    · exact ih
theorem mkI_sub (ss : List Int) (i lost : Int) : ∀ k, k ≤ ss.length → ∀ y ∈ (mkI ss i lost k).2, y ∈ ss
  | 0, _, y, hy => by cases hy
  | k + 1, hk, y, hy => by
    have ih := mkI_sub ss i lost k (by omega) y
    have hlt : k < ss.length := by omega
    unfold mkI at hy
    split at hy
    · rcases List.mem_append.1 hy with h1 | h1
      · exact ih h1
      · rw [getD_get hlt] at h1
        rw [List.mem_singleton.1 h1]
        exact List.getElem_mem hlt
    · exact ih hy
noncomputable def mkB (p q g : Int) (cs ss : List Int) (i lost : Int) : Bool := keyG p q g cs ss && (inR i 1 7 && inR lost 0 7)
noncomputable def mkV (p q g : Int) (cs ss : List Int) (i lost : Int) : Int := if mkB p q g cs ss i lost then rcV p q g cs i (mkI ss i lost ss.length).1 (mkI ss i lost ss.length).2 else 0
noncomputable def mkK (p q g : Int) (cs ss : List Int) (i lost : Int) : Bool := mkB p q g cs ss i lost && rcK p q g cs (mkI ss i lost ss.length).1 (mkI ss i lost ss.length).2
theorem keyG_in {p q g : Int} {cs ss : List Int} (h : keyG p q g cs ss = true) : 7 < q ∧ grpB p q g = true ∧ (1 ≤ cs.length ∧ cs.length ≤ 7) ∧ cs.all (elB p q) = true ∧ (cs.length ≤ ss.length ∧ ss.length ≤ 7) ∧ (∀ y ∈ ss, 0 ≤ y ∧ y ≤ q - 1) := by
  simp only [keyG, dlB, Bool.and_eq_true, decide_eq_true_eq] at h
  obtain ⟨⟨h1, h2⟩, ⟨h3, h4⟩, h5, h6⟩ := h
  have h3 := inR_iff.1 h3
  have h5 := inR_iff.1 h5
  exact ⟨h1, h2, by omega, h4, by omega, allR_iff.1 h6⟩
/-- The guards of RecoverShare hold. -/
theorem mk_rs {p q g : Int} {cs ss : List Int} {i lost : Int} (h : keyG p q g cs ss = true) (hi : inR i 1 7 = true) : rsB p q g cs i (mkI ss i lost ss.length).1 (mkI ss i lost ss.length).2 = true := by
  obtain ⟨h1, h2, h3, h4, h5, h6⟩ := keyG_in h
  have l1 := mkI_len ss i lost ss.length
  have r1 := mkI_rg ss i lost ss.length
  have d1 := mkI_nd ss i lost ss.length
  have s1 := mkI_sub ss i lost ss.length (Nat.le_refl _)
  simp only [rsB, rsG, Bool.and_eq_true, decide_eq_true_eq]
  refine ⟨⟨⟨h1, h2⟩, ⟨inR_iff.2 (by omega), h4⟩, ⟨allR_iff.2 fun y hy => ?_, ?_⟩, l1.1, allR_iff.2 fun y hy => h6 y (s1 y hy)⟩, hi⟩
  · have := r1 y hy; omega
  · unfold diffB; exact decide_eq_true d1
set_option maxRecDepth 100000 in
set_option maxHeartbeats 4000000 in
theorem sRecoverMaskedD_any (p q g : Int) (A : Option Addr) (n c : Nat) (cs : List Int) (B : Option Addr) (m d : Nat) (ss : List Int) (i lost : Int) (w : World) (ha : SlI w A n c cs) (hb : SlI w B m d ss) :
    Calls Try.prog 47 #[.agg #[.int .i64 p, .int .i64 q, .int .i64 g], .agg #[.slice A n c, .slice B m d], .int .i64 i, .int .i64 lost] w fun en w' => en = .returned (.tuple #[.int .i64 (mkV p q g cs ss i lost), .bool (mkK p q g cs ss i lost)]) ∧ Ext w w' := by
  have E := (((Ext.refl w).alloc (.cells #[.int .i64 p, .int .i64 q, .int .i64 g] 25)).alloc (.cells #[.slice A n c, .slice B m d] 62))
  have B0 := ((Blk.new w 25 #[.int .i64 p, .int .i64 q, .int .i64 g]).alloc (.cells #[.slice A n c, .slice B m d] 62))
  have B1 := (Blk.new (w.alloc (.cells #[.int .i64 p, .int .i64 q, .int .i64 g] 25)) 62 #[.slice A n c, .slice B m d])
  simp only [World.size_alloc] at B1
  cases h1 : keyG p q g cs ss
  · have H1 := Lib.hid h1
    have hb9 : mkB p q g cs ss i lost = false := by simp only [mkB, h1, Bool.false_and]
    have hv : mkV p q g cs ss i lost = 0 := by unfold mkV; rw [hb9]; rfl
    have hk0 : mkK p q g cs ss i lost = false := by unfold mkK; rw [hb9]; rfl
    have HV := Lib.hid hv
    have HK := Lib.hid hk0
    clear hb9 hv hk0
    clear h1
    go_enter Try.func47, Try.ntmps47
    have CC0 := B0.cells
    have CC1 := B1.cells
    go_wp2_with fail
    refine (rGood_any p q g A n c cs B m d ss _ (ha.ext E) (hb.ext E)).mono ?_
    rintro en w9 ⟨hen, hb9⟩
    rw [H1.out] at hen; subst hen
    replace E := E.trans hb9
    replace B0 := B0.ext hb9
    replace B1 := B1.ext hb9
    clear hb9 CC0 CC1
    go_wp2
    go_ret2
    exact ⟨by rw [HV.out, HK.out]; rfl, E⟩
  have H1 := Lib.hid h1
  cases h2 : inR i 1 7
  · have H2 := Lib.hid h2
    have hb9 : mkB p q g cs ss i lost = false := by simp only [mkB, h1, h2, Bool.true_and, Bool.false_and]
    have hv : mkV p q g cs ss i lost = 0 := by unfold mkV; rw [hb9]; rfl
    have hk0 : mkK p q g cs ss i lost = false := by unfold mkK; rw [hb9]; rfl
    have HV := Lib.hid hv
    have HK := Lib.hid hk0
    clear hb9 hv hk0
    clear h1 h2
    go_enter Try.func47, Try.ntmps47
    have CC0 := B0.cells
    have CC1 := B1.cells
    go_wp2_with fail
    refine (rGood_any p q g A n c cs B m d ss _ (ha.ext E) (hb.ext E)).mono ?_
    rintro en w9 ⟨hen, hb9⟩
    rw [H1.out] at hen; subst hen
    replace E := E.trans hb9
    replace B0 := B0.ext hb9
    replace B1 := B1.ext hb9
    clear hb9 CC0 CC1
    have CC0 := B0.cells
    have CC1 := B1.cells
    go_wp2_with fail
    refine (l1In_any i 1 7 _).mono ?_
    rintro en w9 ⟨hen, rfl⟩
    rw [H2.out] at hen; subst hen
    clear CC0 CC1
    go_wp2
    go_ret2
    exact ⟨by rw [HV.out, HK.out]; rfl, E⟩
  have H2 := Lib.hid h2
  cases h3 : inR lost 0 7
  · have H3 := Lib.hid h3
    have hb9 : mkB p q g cs ss i lost = false := by simp only [mkB, h1, h2, h3, Bool.true_and]
    have hv : mkV p q g cs ss i lost = 0 := by unfold mkV; rw [hb9]; rfl
    have hk0 : mkK p q g cs ss i lost = false := by unfold mkK; rw [hb9]; rfl
    have HV := Lib.hid hv
    have HK := Lib.hid hk0
    clear hb9 hv hk0
    clear h1 h2 h3
    go_enter Try.func47, Try.ntmps47
    have CC0 := B0.cells
    have CC1 := B1.cells
    go_wp2_with fail
    refine (rGood_any p q g A n c cs B m d ss _ (ha.ext E) (hb.ext E)).mono ?_
    rintro en w9 ⟨hen, hb9⟩
    rw [H1.out] at hen; subst hen
    replace E := E.trans hb9
    replace B0 := B0.ext hb9
    replace B1 := B1.ext hb9
    clear hb9 CC0 CC1
    have CC0 := B0.cells
    have CC1 := B1.cells
    go_wp2_with fail
    refine (l1In_any i 1 7 _).mono ?_
    rintro en w9 ⟨hen, rfl⟩
    rw [H2.out] at hen; subst hen
    clear CC0 CC1
    have CC0 := B0.cells
    have CC1 := B1.cells
    go_wp2_with fail
    refine (l1In_any lost 0 7 _).mono ?_
    rintro en w9 ⟨hen, rfl⟩
    rw [H3.out] at hen; subst hen
    clear CC0 CC1
    go_wp2
    go_ret2
    exact ⟨by rw [HV.out, HK.out]; rfl, E⟩
  have H3 := Lib.hid h3
  obtain ⟨hq7, hgg, h3c, h4c, h5, h6⟩ := keyG_in h1
  have hnl := ha.len
  have hml := hb.len
  have HG := Lib.hid hgg
  have HEL := Lib.hid (els_rg (grpB_in hgg).p9 h4c)
  have H6 := Lib.hid h6
  rw [hnl] at h3c h5
  have HML := Lib.hid hml
  clear h1 h2 h3 hgg h4c h6 hnl hml
  go_enter Try.func47, Try.ntmps47
  have CC0 := B0.cells
  have CC1 := B1.cells
  go_wp2_with fail
  refine (rGood_any p q g A n c cs B m d ss _ (ha.ext E) (hb.ext E)).mono ?_
  rintro en w9 ⟨hen, hb9⟩
  rw [H1.out] at hen; subst hen
  replace E := E.trans hb9
  replace B0 := B0.ext hb9
  replace B1 := B1.ext hb9
  clear hb9 CC0 CC1
  have CC0 := B0.cells
  have CC1 := B1.cells
  go_wp2_with fail
  refine (l1In_any i 1 7 _).mono ?_
  rintro en w9 ⟨hen, rfl⟩
  rw [H2.out] at hen; subst hen
  clear CC0 CC1
  have CC0 := B0.cells
  have CC1 := B1.cells
  go_wp2_with fail
  refine (l1In_any lost 0 7 _).mono ?_
  rintro en w9 ⟨hen, rfl⟩
  rw [H3.out] at hen; subst hen
  clear CC0 CC1
  have CC0 := B0.cells
  have CC1 := B1.cells
  go_wp2
  clear CC0 CC1
  go_loopw [10, 11, 31] (fun u v k wr => ∃ (j x : Nat) (X : Option Addr) (a : Nat) (Y : Option Addr) (z : Nat), j ≤ ss.length ∧ k = .int .i64 j ∧ u = .slice X x a ∧ v = .slice Y x z ∧ x ≤ j ∧ OwnI wr w9.heap.size 3 X x a (mkI ss i lost j).1 ∧ OwnI wr w9.heap.size 3 Y x z (mkI ss i lost j).2 ∧ Apart (fpI X) (fpI Y) ∧ Ext w9 wr) (fun _ _ k _ => ss.length - (intOf k).toNat)
  case atStart => exact ⟨0, 0, none, 0, none, 0, Nat.zero_le _, rfl, rfl, rfl, by omega, OwnI.nil _ _ _, OwnI.nil _ _ _, fun b hb => by simp [fpI] at hb, Ext.refl _⟩
  case round =>
    obtain ⟨j, x, X, u, Y, z, hj, rfl, rfl, rfl, hxj, hX, hY, hap, E2⟩ := hrel
    by_cases hlt : j < ss.length
    · obtain ⟨bd, rfl, hcb⟩ := (hb.rd.ext (E.trans E2)).at_ hlt
      have hst : mkI ss i lost (j + 1) = if ((j : Int) + 1 ≠ i ∧ (j : Int) + 1 ≠ lost) then ((mkI ss i lost j).1 ++ [(j : Int) + 1], (mkI ss i lost j).2 ++ [ss[j]]) else mkI ss i lost j := by rw [mkI, getD_get hlt]
      have HST := Lib.hid hst
      have hm7 : j < m := by have := HML.out; omega
      clear hst
      generalize ss[j] = y at *
      by_cases hc1 : (j : Int) + 1 = i
      · have HNX : Hid (mkI ss i lost (j + 1) = mkI ss i lost j) := by show _ = _; rw [HST.out, if_neg (by simp [hc1])]
        have z1 : ((j : Int) + 1 != i) = false := by simp [hc1]
        have HZ := Lib.hid hc1
        clear hc1
        go_wp2
        go_roundw
        case rel => exact ⟨j + 1, x, X, u, Y, z, by omega, by go_num, rfl, rfl, by omega, by rw [HNX.out]; exact hX, by rw [HNX.out]; exact hY, hap, E2⟩
        case measure => simp [intOf]; omega
      by_cases hc2 : (j : Int) + 1 = lost
      · have HNX : Hid (mkI ss i lost (j + 1) = mkI ss i lost j) := by show _ = _; rw [HST.out, if_neg (by simp [hc2])]
        have z1 : ((j : Int) + 1 != i) = true := by simp [hc1]
        have z2 : ((j : Int) + 1 != lost) = false := by simp [hc2]
        have HZ := Lib.hid hc2
        clear hc2 hc1
        go_wp2
        go_roundw
        case rel => exact ⟨j + 1, x, X, u, Y, z, by omega, by go_num, rfl, rfl, by omega, by rw [HNX.out]; exact hX, by rw [HNX.out]; exact hY, hap, E2⟩
        case measure => simp [intOf]; omega
      have HNX : Hid (mkI ss i lost (j + 1) = ((mkI ss i lost j).1 ++ [(j : Int) + 1], (mkI ss i lost j).2 ++ [y])) := by show _ = _; rw [HST.out, if_pos ⟨hc1, hc2⟩]
      have z1 : ((j : Int) + 1 != i) = true := by simp [hc1]
      have z2 : ((j : Int) + 1 != lost) = true := by simp [hc2]
      clear hc1 hc2
      have hsz := E2.size
      go_wp2_with (first | (at_builtin; refine wpList_app1F intSl rfl _ _ rfl hX rfl rfl rfl (by omega) hsz ?_; intro X2 x2 w4 hX2 hon1 hli1; have E3 := E2.only hon1 hX.high; have hY1 := hY.only hon1 hap.symm; have hap2 : Apart (fpI X2) (fpI Y) := hap.app hY.low hli1; have hsz4 := E3.size) | (at_builtin; refine wpList_app1F intSl rfl _ _ rfl hY1 rfl rfl rfl (by omega) hsz4 ?_; intro Y2 z2 w5 hY2 hon2 hli2))
      have E4 := E3.only hon2 hY1.high
      have hX3 := hX2.only hon2 hap2
      have hap3 : Apart (fpI X2) (fpI Y2) := (hap2.symm.app hX2.low hli2).symm
      go_roundw
      case rel => exact ⟨j + 1, x + 1, X2, x2, Y2, z2, by omega, by go_num, rfl, rfl, by omega, by rw [HNX.out]; exact hX3, by rw [HNX.out]; exact hY2, hap3, E4⟩
      case measure => simp [intOf]; omega
    obtain rfl : j = ss.length := by omega
    have hge : m ≤ ss.length := by have := HML.out; omega
    have hlen1 := mkI_len ss i lost ss.length
    have hv : mkV p q g cs ss i lost = rcV p q g cs i (mkI ss i lost ss.length).1 (mkI ss i lost ss.length).2 := by
      have hB : mkB p q g cs ss i lost = true := by simp only [mkB, H1.out, H2.out, H3.out, Bool.and_self]
      unfold mkV; rw [hB]; rfl
    have hk0 : mkK p q g cs ss i lost = rcK p q g cs (mkI ss i lost ss.length).1 (mkI ss i lost ss.length).2 := by
      have hB : mkB p q g cs ss i lost = true := by simp only [mkB, H1.out, H2.out, H3.out, Bool.and_self]
      unfold mkK; rw [hB, Bool.true_and]
    have HV := Lib.hid hv
    have HK := Lib.hid hk0
    have HX := Lib.hid hX.len
    have HY := Lib.hid hY.len
    have HR : Hid (∀ y ∈ (mkI ss i lost ss.length).1, 1 ≤ y ∧ y ≤ 7) := fun y hy => by have := mkI_rg ss i lost ss.length y hy; have := h5.2; omega
    have HS : Hid (∀ y ∈ (mkI ss i lost ss.length).2, 0 ≤ y ∧ y ≤ q - 1) := fun y hy => H6.out y (mkI_sub ss i lost ss.length (Nat.le_refl _) y hy)
    have HC := Lib.hid ha.len
    have hi7 := inR_iff.1 H2.out
    clear hv hk0 hlen1
    have E9 := E.trans E2
    have q0 := (B0.ext E2).cells
    have q1 := (B1.ext E2).cells
    go_wp2_with fail
    refine (rValue_any p q g i A n c cs X x u (mkI ss i lost ss.length).1 Y z (mkI ss i lost ss.length).2 _ HG.out hq7 (ha.rd.ext E9) HC.out (by omega) HEL.out hi7 hX.rd HX.out (by omega) hY.rd HY.out HR.out (mkI_nd ss i lost ss.length) HS.out).mono ?_
    rintro en w8 ⟨rfl, hb8⟩
    go_wp2
    go_ret2
    exact ⟨by rw [HV.out, HK.out]; rfl, E9.trans hb8⟩
set_option maxRecDepth 100000 in
set_option maxHeartbeats 4000000 in
theorem iRecoverMaskedD_any (p q g : Int) (A : Option Addr) (n c : Nat) (cs : List Int) (B : Option Addr) (m d : Nat) (ss : List Int) (i lost : Int) (w : World) (ha : SlI w A n c cs) (hb : SlI w B m d ss) :
    Calls Try.prog 48 #[.agg #[.int .i64 p, .int .i64 q, .int .i64 g], .agg #[.slice A n c, .slice B m d], .int .i64 i, .int .i64 lost] w fun en w' => en = .returned (.tuple #[.int .i64 (mkV p q g cs ss i lost), .bool (mkK p q g cs ss i lost)]) ∧ Ext w w' := by
  have E := (((Ext.refl w).alloc (.cells #[.int .i64 p, .int .i64 q, .int .i64 g] 25)).alloc (.cells #[.slice A n c, .slice B m d] 62))
  have B0 := ((Blk.new w 25 #[.int .i64 p, .int .i64 q, .int .i64 g]).alloc (.cells #[.slice A n c, .slice B m d] 62))
  have B1 := (Blk.new (w.alloc (.cells #[.int .i64 p, .int .i64 q, .int .i64 g] 25)) 62 #[.slice A n c, .slice B m d])
  simp only [World.size_alloc] at B1
  cases h1 : keyG p q g cs ss
  · have H1 := Lib.hid h1
    have hb9 : mkB p q g cs ss i lost = false := by simp only [mkB, h1, Bool.false_and]
    have hv : mkV p q g cs ss i lost = 0 := by unfold mkV; rw [hb9]; rfl
    have hk0 : mkK p q g cs ss i lost = false := by unfold mkK; rw [hb9]; rfl
    have HV := Lib.hid hv
    have HK := Lib.hid hk0
    clear hb9 hv hk0
    clear h1
    go_enter Try.func48, Try.ntmps48
    have CC0 := B0.cells
    have CC1 := B1.cells
    go_wp2_with fail
    refine (hasKey_any p q g A n c cs B m d ss _ (ha.ext E) (hb.ext E)).mono ?_
    rintro en w9 ⟨hen, hb9⟩
    rw [H1.out] at hen; subst hen
    replace E := E.trans hb9
    replace B0 := B0.ext hb9
    replace B1 := B1.ext hb9
    clear hb9 CC0 CC1
    go_wp2
    go_ret2
    exact ⟨by rw [HV.out, HK.out]; rfl, E⟩
  have H1 := Lib.hid h1
  cases h2 : inR i 1 7
  · have H2 := Lib.hid h2
    have hb9 : mkB p q g cs ss i lost = false := by simp only [mkB, h1, h2, Bool.true_and, Bool.false_and]
    have hv : mkV p q g cs ss i lost = 0 := by unfold mkV; rw [hb9]; rfl
    have hk0 : mkK p q g cs ss i lost = false := by unfold mkK; rw [hb9]; rfl
    have HV := Lib.hid hv
    have HK := Lib.hid hk0
    clear hb9 hv hk0
    clear h1 h2
    go_enter Try.func48, Try.ntmps48
    have CC0 := B0.cells
    have CC1 := B1.cells
    go_wp2_with fail
    refine (hasKey_any p q g A n c cs B m d ss _ (ha.ext E) (hb.ext E)).mono ?_
    rintro en w9 ⟨hen, hb9⟩
    rw [H1.out] at hen; subst hen
    replace E := E.trans hb9
    replace B0 := B0.ext hb9
    replace B1 := B1.ext hb9
    clear hb9 CC0 CC1
    have CC0 := B0.cells
    have CC1 := B1.cells
    go_wp2_with fail
    refine (isTrustee_any i _).mono ?_
    rintro en w9 ⟨hen, rfl⟩
    rw [H2.out] at hen; subst hen
    clear CC0 CC1
    go_wp2
    go_ret2
    exact ⟨by rw [HV.out, HK.out]; rfl, E⟩
  have H2 := Lib.hid h2
  cases h3 : inR lost 0 7
  · have H3 := Lib.hid h3
    have hb9 : mkB p q g cs ss i lost = false := by simp only [mkB, h1, h2, h3, Bool.true_and]
    have hv : mkV p q g cs ss i lost = 0 := by unfold mkV; rw [hb9]; rfl
    have hk0 : mkK p q g cs ss i lost = false := by unfold mkK; rw [hb9]; rfl
    have HV := Lib.hid hv
    have HK := Lib.hid hk0
    clear hb9 hv hk0
    clear h1 h2 h3
    go_enter Try.func48, Try.ntmps48
    have CC0 := B0.cells
    have CC1 := B1.cells
    go_wp2_with fail
    refine (hasKey_any p q g A n c cs B m d ss _ (ha.ext E) (hb.ext E)).mono ?_
    rintro en w9 ⟨hen, hb9⟩
    rw [H1.out] at hen; subst hen
    replace E := E.trans hb9
    replace B0 := B0.ext hb9
    replace B1 := B1.ext hb9
    clear hb9 CC0 CC1
    have CC0 := B0.cells
    have CC1 := B1.cells
    go_wp2_with fail
    refine (isTrustee_any i _).mono ?_
    rintro en w9 ⟨hen, rfl⟩
    rw [H2.out] at hen; subst hen
    clear CC0 CC1
    have CC0 := B0.cells
    have CC1 := B1.cells
    go_wp2_with fail
    refine (within_any lost 0 7 _).mono ?_
    rintro en w9 ⟨hen, rfl⟩
    rw [H3.out] at hen; subst hen
    clear CC0 CC1
    go_wp2
    go_ret2
    exact ⟨by rw [HV.out, HK.out]; rfl, E⟩
  have H3 := Lib.hid h3
  obtain ⟨hq7, hgg, h3c, h4c, h5, h6⟩ := keyG_in h1
  have hnl := ha.len
  have hml := hb.len
  have HG := Lib.hid hgg
  have HEL := Lib.hid (els_rg (grpB_in hgg).p9 h4c)
  have H6 := Lib.hid h6
  rw [hnl] at h3c h5
  have HML := Lib.hid hml
  clear h1 h2 h3 hgg h4c h6 hnl hml
  go_enter Try.func48, Try.ntmps48
  have CC0 := B0.cells
  have CC1 := B1.cells
  go_wp2_with fail
  refine (hasKey_any p q g A n c cs B m d ss _ (ha.ext E) (hb.ext E)).mono ?_
  rintro en w9 ⟨hen, hb9⟩
  rw [H1.out] at hen; subst hen
  replace E := E.trans hb9
  replace B0 := B0.ext hb9
  replace B1 := B1.ext hb9
  clear hb9 CC0 CC1
  have CC0 := B0.cells
  have CC1 := B1.cells
  go_wp2_with fail
  refine (isTrustee_any i _).mono ?_
  rintro en w9 ⟨hen, rfl⟩
  rw [H2.out] at hen; subst hen
  clear CC0 CC1
  have CC0 := B0.cells
  have CC1 := B1.cells
  go_wp2_with fail
  refine (within_any lost 0 7 _).mono ?_
  rintro en w9 ⟨hen, rfl⟩
  rw [H3.out] at hen; subst hen
  clear CC0 CC1
  have CC0 := B0.cells
  have CC1 := B1.cells
  have CC3 := ((B1.alloc (.cells #[] 3)).alloc (.cells #[] 3)).cells
  go_wp2
  clear CC0 CC1
  have E00 := ((Ext.refl w9).alloc (.cells #[] 3)).alloc (.cells #[] 3)
  have HW : Hid (w9.heap.size = w9.heap.size) := rfl
  have hX0 : OwnI ((w9.alloc (.cells #[] 3)).alloc (.cells #[] 3)) w9.heap.size 3 (some ⟨w9.heap.size, 0, none⟩) 0 0 [] := (ownI_lit (n := 0) (w := w9) [] rfl rfl (Nat.le_refl _) (Nat.zero_le _)).ext ((Ext.refl _).alloc _)
  have hY0 : OwnI ((w9.alloc (.cells #[] 3)).alloc (.cells #[] 3)) w9.heap.size 3 (some ⟨w9.heap.size + 1, 0, none⟩) 0 0 [] := ownI_lit (n := 0) (w := w9.alloc (.cells #[] 3)) [] rfl (by simp) (by simp) (Nat.zero_le _)
  have hap0 : Apart (fpI (some (⟨w9.heap.size, 0, none⟩ : Addr))) (fpI (some ⟨w9.heap.size + 1, 0, none⟩)) := fun b hb hb' => by simp [fpI] at hb hb'; omega
  go_loopw [10, 11, 33] (fun u v k wr => ∃ (j x : Nat) (X : Option Addr) (a : Nat) (Y : Option Addr) (z : Nat), j ≤ ss.length ∧ k = .int .i64 j ∧ u = .slice X x a ∧ v = .slice Y x z ∧ x ≤ j ∧ OwnI wr w9.heap.size 3 X x a (mkI ss i lost j).1 ∧ OwnI wr w9.heap.size 3 Y x z (mkI ss i lost j).2 ∧ Apart (fpI X) (fpI Y) ∧ Ext w9 wr) (fun _ _ k _ => ss.length - (intOf k).toNat)
  case atStart => exact ⟨0, 0, _, _, _, _, Nat.zero_le _, rfl, rfl, rfl, by omega, hX0, hY0, hap0, E00⟩
  case round =>
    obtain ⟨j, x, X, u, Y, z, hj, rfl, rfl, rfl, hxj, hX, hY, hap, E2⟩ := hrel
    by_cases hlt : j < ss.length
    · obtain ⟨bd, rfl, hcb⟩ := (hb.rd.ext (E.trans E2)).at_ hlt
      have hst : mkI ss i lost (j + 1) = if ((j : Int) + 1 ≠ i ∧ (j : Int) + 1 ≠ lost) then ((mkI ss i lost j).1 ++ [(j : Int) + 1], (mkI ss i lost j).2 ++ [ss[j]]) else mkI ss i lost j := by rw [mkI, getD_get hlt]
      have HST := Lib.hid hst
      have hm7 : j < m := by have := HML.out; omega
      clear hst
      generalize ss[j] = y at *
      by_cases hc1 : (j : Int) + 1 = i
      · have HNX : Hid (mkI ss i lost (j + 1) = mkI ss i lost j) := by show _ = _; rw [HST.out, if_neg (by simp [hc1])]
        have z1 : ((j : Int) + 1 != i) = false := by simp [hc1]
        have HZ := Lib.hid hc1
        clear hc1
        go_wp2
        go_roundw
        case rel => exact ⟨j + 1, x, X, u, Y, z, by omega, by go_num, rfl, rfl, by omega, by rw [HNX.out]; exact hX, by rw [HNX.out]; exact hY, hap, E2⟩
        case measure => simp [intOf]; omega
      by_cases hc2 : (j : Int) + 1 = lost
      · have HNX : Hid (mkI ss i lost (j + 1) = mkI ss i lost j) := by show _ = _; rw [HST.out, if_neg (by simp [hc2])]
        have z1 : ((j : Int) + 1 != i) = true := by simp [hc1]
        have z2 : ((j : Int) + 1 != lost) = false := by simp [hc2]
        have HZ := Lib.hid hc2
        clear hc2 hc1
        go_wp2
        go_roundw
        case rel => exact ⟨j + 1, x, X, u, Y, z, by omega, by go_num, rfl, rfl, by omega, by rw [HNX.out]; exact hX, by rw [HNX.out]; exact hY, hap, E2⟩
        case measure => simp [intOf]; omega
      have HNX : Hid (mkI ss i lost (j + 1) = ((mkI ss i lost j).1 ++ [(j : Int) + 1], (mkI ss i lost j).2 ++ [y])) := by show _ = _; rw [HST.out, if_pos ⟨hc1, hc2⟩]
      have z1 : ((j : Int) + 1 != i) = true := by simp [hc1]
      have z2 : ((j : Int) + 1 != lost) = true := by simp [hc2]
      clear hc1 hc2
      have hsz := E2.size
      go_wp2_with (first | (at_builtin; refine wpList_app1F intSl rfl _ _ rfl hX rfl rfl rfl (by omega) hsz ?_; intro X2 x2 w4 hX2 hon1 hli1; have E3 := E2.only hon1 hX.high; have hY1 := hY.only hon1 hap.symm; have hap2 : Apart (fpI X2) (fpI Y) := hap.app hY.low hli1; have hsz4 := E3.size) | (at_builtin; refine wpList_app1F intSl rfl _ _ rfl hY1 rfl rfl rfl (by omega) hsz4 ?_; intro Y2 z2 w5 hY2 hon2 hli2))
      have E4 := E3.only hon2 hY1.high
      have hX3 := hX2.only hon2 hap2
      have hap3 : Apart (fpI X2) (fpI Y2) := (hap2.symm.app hX2.low hli2).symm
      go_roundw
      case rel => exact ⟨j + 1, x + 1, X2, x2, Y2, z2, by omega, by go_num, rfl, rfl, by omega, by rw [HNX.out]; exact hX3, by rw [HNX.out]; exact hY2, hap3, E4⟩
      case measure => simp [intOf]; omega
    obtain rfl : j = ss.length := by omega
    have hge : m ≤ ss.length := by have := HML.out; omega
    have hlen1 := mkI_len ss i lost ss.length
    have hv : mkV p q g cs ss i lost = rsV p q g cs i (mkI ss i lost ss.length).1 (mkI ss i lost ss.length).2 := by
      have hrs := mk_rs (lost := lost) (H1.out) (H2.out)
      have hB : mkB p q g cs ss i lost = true := by simp only [mkB, H1.out, H2.out, H3.out, Bool.and_self]
      unfold mkV rsV; rw [hB, hrs]
    have hk0 : mkK p q g cs ss i lost = rsK p q g cs i (mkI ss i lost ss.length).1 (mkI ss i lost ss.length).2 := by
      have hrs := mk_rs (lost := lost) (H1.out) (H2.out)
      have hB : mkB p q g cs ss i lost = true := by simp only [mkB, H1.out, H2.out, H3.out, Bool.and_self]
      unfold mkK rsK; rw [hB, hrs]
    have HV := Lib.hid hv
    have HK := Lib.hid hk0
    have HX := Lib.hid hX.len
    have HY := Lib.hid hY.len
    have hxc := hX.cap
    have hyc := hY.cap
    have hcc := ha.len
    have HC := Lib.hid ha.len
    clear hv hk0 hlen1 hcc
    have E9 := E.trans E2
    have q0 := (B0.ext E2).cells
    have q1 := (B1.ext E2).cells
    go_wp2_with fail
    refine (iRecoverShare_any p q g A n c cs i X x u (mkI ss i lost ss.length).1 Y x z (mkI ss i lost ss.length).2 _ (ha.rd.ext E9) HC.out (by omega) ⟨ha.cap, ha.max⟩ hX.rd HX.out (by omega) hxc hY.rd HY.out (by omega) hyc).mono ?_
    rintro en w8 ⟨rfl, hb8⟩
    go_wp2
    go_ret2
    exact ⟨by rw [HV.out, HK.out]; rfl, E9.trans hb8⟩
end Go.Proofs.Ythamimjejlicpaa
