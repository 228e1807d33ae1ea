/- Contracts for ColumnCommits: the program's and the reference's. (Printed by tools/gen_col2.py.) -/
import Derived.Test.YtdimmfniefjjkaaProg
import Derived.Test.YtdimmfniefjjkaaCol
namespace Go.Proofs.Ytdimmfniefjjkaa
open Go.RowKit

noncomputable def ccK (p q g : Int) (perm ss : List Int) : Bool := grpB p q g && (inR perm.length 1 12 && (mixB q perm ss && basK p q g perm.length))
noncomputable def ccR (p q g : Int) (perm ss : List Int) : Option (List Int) := if ccK p q g perm ss then some (colL p q g perm ss (derL p q g ⟨#[104, 115]⟩ perm.length) perm.length) else none
theorem ccR_bd (p q g : Int) (perm ss : List Int) : ((ccR p q g perm ss).getD []).length ≤ 100000 := by
  unfold ccR
  split
  · rename_i h
    unfold ccK at h
    simp only [Bool.and_eq_true] at h
    have := inR_iff.1 h.2.1
    rw [Option.getD_some, colL_length]
    omega
  · simp
theorem cc_no {p q g : Int} {perm ss : List Int} {w w' : World} (h : ccK p q g perm ss = false) (hE : Ext w w') : ResI 3 w (ccR p q g perm ss) (.returned (.tuple #[.slice none 0 0, .bool false])) w' := by
  unfold ccR
  rw [h]
  exact ⟨none, 0, 0, rfl, OwnI.nil _ _ _, hE⟩
/-- What a mixing gives. -/
theorem mix_out {q : Int} {perm ss : List Int} (h : mixB q perm ss = true) : permB perm = true ∧ allR perm 0 (perm.length - 1) = true ∧ ss.length = perm.length ∧ allR ss 0 (q - 1) = true := by
  unfold mixB at h
  simp only [Bool.and_eq_true, decide_eq_true_eq] at h
  exact ⟨h.1, (permB_parts h.1).2.1, h.2.1, h.2.2⟩
theorem derL_rg {p q g : Int} (h : grpB p q g = true) {s : ByteArray} {n : Nat} (ha : derA p q g s n = true) : ∀ y ∈ derL p q g s n, 0 ≤ y ∧ y ≤ 3000000000 := by
  intro y hy
  unfold derL at hy
  obtain ⟨k, hk, rfl⟩ := List.mem_map.1 hy
  have h1 := elB_iff.1 (derV_out h s k (derA_mem ha (List.mem_range.1 hk))).1
  have h2 := (grpB_in h).p9
  omega
set_option maxRecDepth 100000 in
set_option maxHeartbeats 4000000 in
theorem iColumnCommits_any (p q g : Int) (A : Option Addr) (n c : Nat) (perm : List Int) (D : Option Addr) (m d : Nat) (ss : List Int) (w : World) (ha : RdI w A perm) (hl : perm.length = n) (hn : n ≤ 1048576) (hc : n ≤ c ∧ c ≤ maxLen) (hb : RdI w D ss) (hm : ss.length = m) (hm2 : m ≤ 1048576) (_hd : m ≤ d ∧ d ≤ maxLen) :
    Calls Try.prog 61 #[.agg #[.int .i64 p, .int .i64 q, .int .i64 g], .slice A n c, .slice D m d] w fun e w' => ResI 3 w (ccR p q g perm ss) e w' := by
  have E := (Ext.refl w).alloc (.cells #[.int .i64 p, .int .i64 q, .int .i64 g] 37)
  have B := Blk.new w 37 #[.int .i64 p, .int .i64 q, .int .i64 g]
  have HM := Lib.hid hm
  clear hm
  subst hl
  cases h1 : grpB p q g
  · have H1 := Lib.hid h1
    have hk : ccK p q g perm ss = false := by simp [ccK, h1]
    have HK := Lib.hid hk
    clear hk h1
    go_enter Try.func61, Try.ntmps61
    have C := B.cells
    go_wp2_with fail
    refine (IsValidGroup_any p q g _).mono ?_
    rintro e w1 ⟨he, hb9⟩
    rw [H1.out] at he; subst he
    replace E := E.trans hb9
    replace B := B.ext hb9
    clear hb9 C
    go_wp2
    go_ret2
    exact cc_no HK.out E
  have H1 := Lib.hid h1
  have hG := (grpB_in h1).bd
  have hGI := grpB_in h1
  cases h2 : inR (perm.length : Int) 1 12
  · have H2 := Lib.hid h2
    have hk : ccK p q g perm ss = false := by simp [ccK, h1, h2]
    have HK := Lib.hid hk
    clear hk h1 h2
    go_enter Try.func61, Try.ntmps61
    have C := B.cells
    go_wp2_with fail
    refine (IsValidGroup_any p q g _).mono ?_
    rintro e w1 ⟨he, hb9⟩
    rw [H1.out] at he; subst he
    replace E := E.trans hb9
    replace B := B.ext hb9
    clear hb9 C
    have C := B.cells
    go_wp2_with fail
    refine (within_any _ _ _ _).mono ?_
    rintro e w2 ⟨he, rfl⟩
    rw [H2.out] at he; subst he
    clear C
    go_wp2
    go_ret2
    exact cc_no HK.out E
  have H2 := Lib.hid h2
  have hn12 := inR_iff.1 h2
  cases h3 : mixB q perm ss
  · have H3 := Lib.hid h3
    have hk : ccK p q g perm ss = false := by simp [ccK, h1, h2, h3]
    have HK := Lib.hid hk
    clear hk h1 h2 h3
    go_enter Try.func61, Try.ntmps61
    have C := B.cells
    go_wp2_with fail
    refine (IsValidGroup_any p q g _).mono ?_
    rintro e w1 ⟨he, hb9⟩
    rw [H1.out] at he; subst he
    replace E := E.trans hb9
    replace B := B.ext hb9
    clear hb9 C
    have C := B.cells
    go_wp2_with fail
    refine (within_any _ _ _ _).mono ?_
    rintro e w2 ⟨he, rfl⟩
    rw [H2.out] at he; subst he
    clear C
    have C := B.cells
    go_wp2_with fail
    refine (isMixing_any p q g A D perm.length c m d perm ss _ hG (ha.ext E) rfl hc (hb.ext E) HM.out hm2 hn).mono ?_
    rintro e w3 ⟨he, hb9⟩
    rw [H3.out] at he; subst he
    replace E := E.trans hb9
    replace B := B.ext hb9
    clear hb9 C
    go_wp2
    go_ret2
    exact cc_no HK.out E
  have H3 := Lib.hid h3
  have hmix := mix_out h3
  cases h4 : basK p q g perm.length
  · have H4 := Lib.hid h4
    have hk : ccK p q g perm ss = false := by simp [ccK, h1, h2, h3, h4]
    have HK := Lib.hid hk
    clear hk h1 h2 h3 h4 hmix
    go_enter Try.func61, Try.ntmps61
    have C := B.cells
    go_wp2_with fail
    refine (IsValidGroup_any p q g _).mono ?_
    rintro e w1 ⟨he, hb9⟩
    rw [H1.out] at he; subst he
    replace E := E.trans hb9
    replace B := B.ext hb9
    clear hb9 C
    have C := B.cells
    go_wp2_with fail
    refine (within_any _ _ _ _).mono ?_
    rintro e w2 ⟨he, rfl⟩
    rw [H2.out] at he; subst he
    clear C
    have C := B.cells
    go_wp2_with fail
    refine (isMixing_any p q g A D perm.length c m d perm ss _ hG (ha.ext E) rfl hc (hb.ext E) HM.out hm2 hn).mono ?_
    rintro e w3 ⟨he, hb9⟩
    rw [H3.out] at he; subst he
    replace E := E.trans hb9
    replace B := B.ext hb9
    clear hb9 C
    have C := B.cells
    go_wp2_with fail
    refine (basesOf_any p q g perm.length _ H1.out (by omega)).mono ?_
    rintro e w4 ⟨X, AX, mX, cX, he, _, hno, hb9⟩
    rw [H4.out] at he; subst he
    replace E := (E.trans hb9).alloc (.cells #[.int .i64 X, .slice AX mX cX] 79)
    clear hb9 C hno
    go_wp2
    go_ret2
    exact cc_no HK.out E
  have H4 := Lib.hid h4
  have hk : ccK p q g perm ss = true := by simp [ccK, h1, h2, h3, h4]
  have hcc : ccR p q g perm ss = some (colL p q g perm ss (derL p q g ⟨#[104, 115]⟩ perm.length) perm.length) := by unfold ccR; rw [hk]; rfl
  have hda : derA p q g ⟨#[104, 115]⟩ perm.length = true := by unfold basK at h4; rw [Bool.and_eq_true] at h4; exact h4.2
  have hdr := derL_rg h1 hda
  have HDR := Lib.hid hdr
  have HMX := Lib.hid hmix
  have hp2 := hGI.p9
  have hg2 := hGI.g2
  have hgp := hGI.gp
  have hqp := hGI.qp
  have hmn : m = perm.length := by rw [← hmix.2.2.1]; exact HM.out.symm
  rw [hcc]
  clear hk hcc h1 h2 h3 h4 hda hdr hmix
  subst hmn
  go_enter Try.func61, Try.ntmps61
  have C := B.cells
  go_wp2_with fail
  refine (IsValidGroup_any p q g _).mono ?_
  rintro e w1 ⟨he, hb9⟩
  rw [H1.out] at he; subst he
  replace E := E.trans hb9
  replace B := B.ext hb9
  clear hb9 C
  have C := B.cells
  go_wp2_with fail
  refine (within_any _ _ _ _).mono ?_
  rintro e w2 ⟨he, rfl⟩
  rw [H2.out] at he; subst he
  clear C
  have C := B.cells
  go_wp2_with fail
  refine (isMixing_any p q g A D perm.length c perm.length d perm ss _ hG (ha.ext E) rfl hc (hb.ext E) HM.out hm2 hn).mono ?_
  rintro e w3 ⟨he, hb9⟩
  rw [H3.out] at he; subst he
  replace E := E.trans hb9
  replace B := B.ext hb9
  clear hb9 C
  have C := B.cells
  go_wp2_with fail
  refine (basesOf_any p q g perm.length _ H1.out (by omega)).mono ?_
  rintro e w4 ⟨X, AX, mX, cX, he, hyes, hno, hb9⟩
  rw [H4.out] at he hyes hno; subst he
  have hBB := Blk.new w4 79 #[.int .i64 X, .slice AX mX cX]
  have hb8 := (Ext.refl w4).alloc (.cells #[.int .i64 X, .slice AX mX cX] 79)
  replace E := (E.trans hb9).trans hb8
  replace B := (B.ext hb9).ext hb8
  have hO := (hyes rfl).2.ext hb8
  clear hb9 hb8 C hyes hno
  have hsz := E.size
  have C := B.cells
  have CB := hBB.cells
  have hlX : (derL p q g ⟨#[104, 115]⟩ perm.length).length = mX := hO.len
  have hlX2 := derL_length p q g ⟨#[104, 115]⟩ perm.length
  have hsz9 := E.size
  go_wp2_with fail
  refine (columnCommits_any p q g X AX mX cX (derL p q g ⟨#[104, 115]⟩ perm.length) A D perm.length c d perm ss _ hG (by omega) hO.rd hlX (by omega) (by omega) HDR.out (ha.ext E) rfl (by omega) HMX.out.2.1 (hb.ext E) HMX.out.2.2.1 (fun x hx => by have := allR_iff.1 HMX.out.2.2.2 x hx; omega)).mono ?_
  rintro e w9 ⟨A', c', rfl, hO9, hb9⟩
  go_wp2
  go_ret2
  exact ⟨_, _, _, rfl, hO9.more (by omega), E.trans hb9⟩
set_option maxRecDepth 100000 in
set_option maxHeartbeats 4000000 in
theorem sColumnCommits_any (p q g : Int) (A : Option Addr) (n c : Nat) (perm : List Int) (D : Option Addr) (m d : Nat) (ss : List Int) (w : World) (ha : RdI w A perm) (hl : perm.length = n) (hn : n ≤ 1048576) (hc : n ≤ c ∧ c ≤ maxLen) (hb : RdI w D ss) (hm : ss.length = m) (hm2 : m ≤ 1048576) (_hd : m ≤ d ∧ d ≤ maxLen) :
    Calls Try.prog 60 #[.agg #[.int .i64 p, .int .i64 q, .int .i64 g], .slice A n c, .slice D m d] w fun e w' => ResI 3 w (ccR p q g perm ss) e w' := by
  have E := (Ext.refl w).alloc (.cells #[.int .i64 p, .int .i64 q, .int .i64 g] 37)
  have B := Blk.new w 37 #[.int .i64 p, .int .i64 q, .int .i64 g]
  have HM := Lib.hid hm
  clear hm
  subst hl
  cases h1 : (grpB p q g && (inR (perm.length : Int) 0 24 && basK p q g (perm.length : Int).toNat))
  · have H1 := Lib.hid h1
    have hk : ccK p q g perm ss = false := by 
      cases h9 : ccK p q g perm ss
      · rfl
      · unfold ccK at h9
        simp only [Bool.and_eq_true] at h9
        have h8 := inR_iff.1 h9.2.1
        have h7 : inR (perm.length : Int) 0 24 = true := inR_iff.2 ⟨by omega, by omega⟩
        rw [h9.1, h7, Int.toNat_natCast, h9.2.2.2] at h1
        cases h1
    have HK := Lib.hid hk
    clear hk h1
    go_enter Try.func60, Try.ntmps60
    have C := B.cells
    go_wp2_with fail
    refine (sBasesOf_any p q g perm.length _).mono ?_
    rintro e w4 ⟨X, AX, mX, cX, he, hyes, hno, hb9⟩
    rw [H1.out] at he hyes hno; subst he
    have hBB := Blk.new w4 79 #[.int .i64 X, .slice AX mX cX]
    have hb8 := (Ext.refl w4).alloc (.cells #[.int .i64 X, .slice AX mX cX] 79)
    replace E := (E.trans hb9).trans hb8
    replace B := (B.ext hb9).ext hb8
    clear hb9 hb8 C hyes hno hBB
    go_wp2
    go_ret2
    exact cc_no HK.out E
  have H1 := Lib.hid h1
  have h1' := h1
  simp only [Bool.and_eq_true] at h1'
  obtain ⟨hgr, hr24, hbk⟩ := h1'
  rw [Int.toNat_natCast] at hbk
  have hG := (grpB_in hgr).bd
  have hGI := grpB_in hgr
  cases h2 : inR (perm.length : Int) 1 12
  · have H2 := Lib.hid h2
    have hk : ccK p q g perm ss = false := by simp [ccK, h2]
    have HK := Lib.hid hk
    clear hk h1 h2 hgr hr24 hbk
    go_enter Try.func60, Try.ntmps60
    have C := B.cells
    go_wp2_with fail
    refine (sBasesOf_any p q g perm.length _).mono ?_
    rintro e w4 ⟨X, AX, mX, cX, he, hyes, hno, hb9⟩
    rw [H1.out] at he hyes hno; subst he
    have hBB := Blk.new w4 79 #[.int .i64 X, .slice AX mX cX]
    have hb8 := (Ext.refl w4).alloc (.cells #[.int .i64 X, .slice AX mX cX] 79)
    replace E := (E.trans hb9).trans hb8
    replace B := (B.ext hb9).ext hb8
    clear hb9 hb8 C hyes hno hBB
    go_wp2_with fail
    refine (l1In_any _ _ _ _).mono ?_
    rintro e w5 ⟨he, rfl⟩
    rw [H2.out] at he; subst he
    go_wp2
    go_ret2
    exact cc_no HK.out E
  have H2 := Lib.hid h2
  have hn12 := inR_iff.1 h2
  cases h3 : permB perm
  · have H3 := Lib.hid h3
    have hk : ccK p q g perm ss = false := by simp [ccK, mixB, h3]
    have HK := Lib.hid hk
    clear hk h1 h2 h3 hgr hr24 hbk
    go_enter Try.func60, Try.ntmps60
    have C := B.cells
    go_wp2_with fail
    refine (sBasesOf_any p q g perm.length _).mono ?_
    rintro e w4 ⟨X, AX, mX, cX, he, hyes, hno, hb9⟩
    rw [H1.out] at he hyes hno; subst he
    have hBB := Blk.new w4 79 #[.int .i64 X, .slice AX mX cX]
    have hb8 := (Ext.refl w4).alloc (.cells #[.int .i64 X, .slice AX mX cX] 79)
    replace E := (E.trans hb9).trans hb8
    replace B := (B.ext hb9).ext hb8
    clear hb9 hb8 C hyes hno hBB
    go_wp2_with fail
    refine (l1In_any _ _ _ _).mono ?_
    rintro e w5 ⟨he, rfl⟩
    rw [H2.out] at he; subst he
    go_wp2_with fail
    refine (mPerm_any A perm.length c perm _ (ha.ext E) rfl hc (by omega)).mono ?_
    rintro e w6 ⟨he, rfl⟩
    rw [H3.out] at he; subst he
    go_wp2
    go_ret2
    exact cc_no HK.out E
  have H3 := Lib.hid h3
  by_cases h4 : m = perm.length
  case neg =>
    have hz : ((m : Int) != (perm.length : Int)) = true := by simp; omega
    have hk : ccK p q g perm ss = false := by 
      have h9 : ¬ ss.length = perm.length := by rw [HM.out]; exact h4
      simp [ccK, mixB, h9]
    have HK := Lib.hid hk
    clear hk h1 h2 h3 h4 hgr hr24 hbk
    go_enter Try.func60, Try.ntmps60
    have C := B.cells
    go_wp2_with fail
    refine (sBasesOf_any p q g perm.length _).mono ?_
    rintro e w4 ⟨X, AX, mX, cX, he, hyes, hno, hb9⟩
    rw [H1.out] at he hyes hno; subst he
    have hBB := Blk.new w4 79 #[.int .i64 X, .slice AX mX cX]
    have hb8 := (Ext.refl w4).alloc (.cells #[.int .i64 X, .slice AX mX cX] 79)
    replace E := (E.trans hb9).trans hb8
    replace B := (B.ext hb9).ext hb8
    clear hb9 hb8 C hyes hno hBB
    go_wp2_with fail
    refine (l1In_any _ _ _ _).mono ?_
    rintro e w5 ⟨he, rfl⟩
    rw [H2.out] at he; subst he
    go_wp2_with fail
    refine (mPerm_any A perm.length c perm _ (ha.ext E) rfl hc (by omega)).mono ?_
    rintro e w6 ⟨he, rfl⟩
    rw [H3.out] at he; subst he
    go_wp2
    go_ret2
    exact cc_no HK.out E
  subst h4
  have hz : ((perm.length : Int) != (perm.length : Int)) = false := by simp
  cases h5 : allR ss 0 (q - 1)
  · have H5 := Lib.hid h5
    have hk : ccK p q g perm ss = false := by simp [ccK, mixB, h5]
    have HK := Lib.hid hk
    clear hk h1 h2 h3 h5 hgr hr24 hbk
    go_enter Try.func60, Try.ntmps60
    have C := B.cells
    go_wp2_with fail
    refine (sBasesOf_any p q g perm.length _).mono ?_
    rintro e w4 ⟨X, AX, mX, cX, he, hyes, hno, hb9⟩
    rw [H1.out] at he hyes hno; subst he
    have hBB := Blk.new w4 79 #[.int .i64 X, .slice AX mX cX]
    have hb8 := (Ext.refl w4).alloc (.cells #[.int .i64 X, .slice AX mX cX] 79)
    replace E := (E.trans hb9).trans hb8
    replace B := (B.ext hb9).ext hb8
    clear hb9 hb8 C hyes hno hBB
    go_wp2_with fail
    refine (l1In_any _ _ _ _).mono ?_
    rintro e w5 ⟨he, rfl⟩
    rw [H2.out] at he; subst he
    go_wp2_with fail
    refine (mPerm_any A perm.length c perm _ (ha.ext E) rfl hc (by omega)).mono ?_
    rintro e w6 ⟨he, rfl⟩
    rw [H3.out] at he; subst he
    have C := B.cells
    go_wp2_with fail
    refine (gExps_any p q g D perm.length d ss _ hG (hb.ext E) HM.out (by unfold maxLen; omega)).mono ?_
    rintro e w7 ⟨he, hb9⟩
    rw [H5.out] at he; subst he
    replace E := E.trans hb9
    replace B := B.ext hb9
    clear hb9 C
    go_wp2
    go_ret2
    exact cc_no HK.out E
  have H5 := Lib.hid h5
  have hmix : mixB q perm ss = true := by unfold mixB; rw [h3, h5, HM.out]; simp
  have hk : ccK p q g perm ss = true := by unfold ccK; rw [hgr, h2, hmix, hbk]; rfl
  have hcc : ccR p q g perm ss = some (colL p q g perm ss (derL p q g ⟨#[104, 115]⟩ perm.length) perm.length) := by unfold ccR; rw [hk]; rfl
  have hda : derA p q g ⟨#[104, 115]⟩ perm.length = true := by unfold basK at hbk; rw [Bool.and_eq_true] at hbk; exact hbk.2
  have hdr := derL_rg hgr hda
  have HDR := Lib.hid hdr
  have HMX := Lib.hid (mix_out hmix)
  have hp2 := hGI.p9
  have hg2 := hGI.g2
  have hgp := hGI.gp
  have hqp := hGI.qp
  rw [hcc]
  clear hk hcc h1 h2 h3 h5 hda hdr hmix hgr hr24 hbk
  go_enter Try.func60, Try.ntmps60
  have C := B.cells
  go_wp2_with fail
  refine (sBasesOf_any p q g perm.length _).mono ?_
  rintro e w4 ⟨X, AX, mX, cX, he, hyes, hno, hb9⟩
  rw [H1.out] at he hyes hno; subst he
  have hBB := Blk.new w4 79 #[.int .i64 X, .slice AX mX cX]
  have hb8 := (Ext.refl w4).alloc (.cells #[.int .i64 X, .slice AX mX cX] 79)
  replace E := (E.trans hb9).trans hb8
  replace B := (B.ext hb9).ext hb8
  have hO := (hyes rfl).2.ext hb8
  rw [Int.toNat_natCast] at hO
  have hsz := E.size
  clear hb9 hb8 C hyes hno
  go_wp2_with fail
  refine (l1In_any _ _ _ _).mono ?_
  rintro e w5 ⟨he, rfl⟩
  rw [H2.out] at he; subst he
  go_wp2_with fail
  refine (mPerm_any A perm.length c perm _ (ha.ext E) rfl hc (by omega)).mono ?_
  rintro e w6 ⟨he, rfl⟩
  rw [H3.out] at he; subst he
  have C := B.cells
  go_wp2_with fail
  refine (gExps_any p q g D perm.length d ss _ hG (hb.ext E) HM.out (by unfold maxLen; omega)).mono ?_
  rintro e w7 ⟨he, hb9⟩
  rw [H5.out] at he; subst he
  replace E := E.trans hb9
  replace B := B.ext hb9
  replace hO := hO.ext hb9
  replace hBB := hBB.ext hb9
  clear hb9 C
  have C := B.cells
  have CB := hBB.cells
  have hlX : (derL p q g ⟨#[104, 115]⟩ perm.length).length = mX := hO.len
  have hlX2 := derL_length p q g ⟨#[104, 115]⟩ perm.length
  have hsz9 := E.size
  go_wp2_with fail
  refine (mColumns_any p q g X AX mX cX (derL p q g ⟨#[104, 115]⟩ perm.length) A D perm.length c d perm ss _ hG (by omega) hO.rd hlX (by omega) (by omega) HDR.out (ha.ext E) rfl (by omega) HMX.out.2.1 (hb.ext E) HMX.out.2.2.1 (fun x hx => by have := allR_iff.1 HMX.out.2.2.2 x hx; omega)).mono ?_
  rintro e w9 ⟨A', c', rfl, hO9, hb9⟩
  go_wp2
  go_ret2
  exact ⟨_, _, _, rfl, hO9.more (by omega), E.trans hb9⟩
end Go.Proofs.Ytdimmfniefjjkaa
