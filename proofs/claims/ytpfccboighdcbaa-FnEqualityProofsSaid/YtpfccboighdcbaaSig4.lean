/- Contracts for proofs of knowledge and of equal logarithms: the program's and the reference's. (Printed by tools/gen_sig4.py.) -/
import Derived.Test.YtpfccboighdcbaaProg
import Derived.Test.YtpfccboighdcbaaSig2
import Derived.Test.YtpfccboighdcbaaSig3
namespace Go.Proofs.Ytpfccboighdcbaa
open Go.RowKit
set_option linter.unusedSimpArgs false
set_option linter.unusedVariables false

noncomputable def plK (p q g : Int) (s : ByteArray) (rows : List (List Int)) (xs ws : List Int) : Bool := grpB p q g && (decide (s.size ≤ 40) && (rowsB p q rows && (allR xs 0 (q - 1) && allR ws 0 (q - 1))))
noncomputable def vlK (p q g : Int) (s : ByteArray) (rows : List (List Int)) (im : List Int) : Bool := grpB p q g && (decide (s.size ≤ 40) && (rowsB p q rows && im.all (elB p q)))
/-- A proof, or none. -/
def PrP (K : Bool) (cm ch rs : List Int) (w : World) (en : Ending) (w' : World) : Prop :=
  ∃ A1 n1 c1 A2 n2 c2 A3 n3 c3, en = .returned (.tuple #[.agg #[.slice A1 n1 c1, .slice A2 n2 c2, .slice A3 n3 c3], .bool K]) ∧ SlI w' A1 n1 c1 (if K then cm else []) ∧ SlI w' A2 n2 c2 (if K then ch else []) ∧ SlI w' A3 n3 c3 (if K then rs else []) ∧ Ext w w'
theorem SlI.none (w : World) : SlI w none 0 0 [] := ⟨RdI.nil _ _, rfl, Nat.le_refl _, Nat.zero_le _⟩
theorem PrP.no {cm ch rs : List Int} {w w' : World} (h : Ext w w') : PrP false cm ch rs w (.returned (.tuple #[.agg #[.slice none 0 0, .slice none 0 0, .slice none 0 0], .bool false])) w' :=
  ⟨none, 0, 0, none, 0, 0, none, 0, 0, rfl, SlI.none _, SlI.none _, SlI.none _, h⟩
theorem only_3 (w : World) (g : Nat) (u v x : Value) : Only [g] w (((w.setCell ⟨g, 0, none⟩ u).setCell ⟨g, 1, none⟩ v).setCell ⟨g, 2, none⟩ x) :=
  (((Only.refl _ _).setCell (p := ⟨g, 0, none⟩) (by simp) _).setCell (p := ⟨g, 1, none⟩) (by simp) _).setCell (p := ⟨g, 2, none⟩) (by simp) _
/-- What is read as ints does not lie in a block without ints. -/
theorem SlI.far {w w' : World} {A : Option Addr} {n c : Nat} {l : List Int} {g : Nat} {t : TypeId} {cs : Array Value} (h : SlI w A n c l) (hB : Blk w g t cs) (hcs : ∀ (i : Nat) (y : Int), cs[i]? ≠ some (.int .i64 y)) (ho : Only [g] w w') : SlI w' A n c l := by
  refine ⟨?_, h.len, h.cap, h.max⟩
  rcases h.rd with h0 | ⟨ad, hA, hc⟩
  · exact .inl h0
  · refine .inr ⟨ad, hA, fun j u hu => ?_⟩
    have h1 := hc j u hu
    have hlt := World.block_lt_of_cell? w _ h1
    by_cases e : (ad.add j).block = g
    · exfalso
      simp only [ints, List.getElem?_map, Option.map_eq_some_iff] at hu
      obtain ⟨y, _, rfl⟩ := hu
      unfold Blk at hB
      simp only [World.cell?, e, hB] at h1
      split at h1
      · cases h1
      · exact hcs _ y h1
    · have h2 := ho.block _ hlt (by simpa using e)
      simpa only [World.cell?, h2] using h1
theorem z3_no (i : Nat) (y : Int) : (#[.slice none 0 0, .slice none 0 0, .slice none 0 0] : Array Value)[i]? ≠ some (.int .i64 y) := by
  intro h
  match i with
  | 0 => simp at h
  | 1 => simp at h
  | 2 => simp at h
  | i + 3 => simp at h
theorem isLabel_any (s : ByteArray) (w : World) (hs : s.size ≤ 1000000) : Calls Try.prog 137 #[.string s] w fun en w' => en = .returned (.bool (decide (s.size ≤ 40))) ∧ w = w' := by
  go_enter Try.func137, Try.ntmps137
  go_wp2
  go_ret
  exact ⟨ret_bool (by rw [decide_eq_decide]; omega), rfl⟩
set_option maxRecDepth 100000 in
set_option maxHeartbeats 8000000 in
theorem ProveLinear_any (p q g : Int) (s : ByteArray) (A D F : Option Addr) (n c m d f : Nat) (rows : List (List Int)) (xs ws : List Int) (w : World) (hs : s.size ≤ 1000) (ha : RdSS w A rows) (hl : rows.length = n) (hn : 1 ≤ n ∧ n ≤ 8) (hb : SlI w D m d xs) (hc : SlI w F m f ws) (hm : (rows.headD []).length = m) (hm9 : m ≤ 1000) :
    Calls Try.prog 66 #[.agg #[.int .i64 p, .int .i64 q, .int .i64 g], .string s, .slice A n c, .slice D m d, .slice F m f] w fun en w' => PrP (plK p q g s rows xs ws) (imgL p q rows ws) [lpE p q g s rows xs ws] (rspL q (lpE p q g s rows xs ws) ws xs) w en w' := by
  obtain ⟨ad, hA, Y, y, yc, hcell, hry, hly, hyc, hym⟩ := ha.at_ (show 0 < rows.length by omega)
  rw [show ad.add 0 = ad from rfl] at hcell
  have e0 : rows[0]'(by omega) = rows.headD [] := by cases rows with
    | nil => simp at hl; omega
    | cons a l => rfl
  rw [e0, hm] at hly
  obtain rfl : m = y := hly
  subst hA
  have hb0 : (0 : Int) < (n : Int) := by omega
  have hb0n : 0 < n := by omega
  have d1 : ((m : Int) != (m : Int)) = false := by simp
  have HL := Lib.hid hl
  have HM := Lib.hid hm
  have hn9 : n ≤ maxLen := by unfold maxLen; omega
  have hm99 : m ≤ maxLen := by unfold maxLen; omega
  clear e0 hm
  have E := (((Ext.refl w).alloc (.cells #[.int .i64 p, .int .i64 q, .int .i64 g] 38)).alloc (.cells #[.slice none 0 0, .slice none 0 0, .slice none 0 0] 44))
  have B0 := ((Blk.new w 38 #[.int .i64 p, .int .i64 q, .int .i64 g]).alloc (.cells #[.slice none 0 0, .slice none 0 0, .slice none 0 0] 44))
  have B1 := (Blk.new (w.alloc (.cells #[.int .i64 p, .int .i64 q, .int .i64 g] 38)) 44 #[.slice none 0 0, .slice none 0 0, .slice none 0 0])
  simp only [World.size_alloc] at B1
  have hc0 := E.cell hcell
  cases h1 : grpB p q g
  · have H1 := Lib.hid h1
    have hv : plK p q g s rows xs ws = false := by unfold plK; simp only [h1, Bool.true_and, Bool.false_and, Bool.and_false]
    rw [hv]
    clear hv
    clear h1
    go_enter Try.func66, Try.ntmps66
    have CC0 := B0.cells
    have CC1 := B1.cells
    go_wp2_with fail
    refine (IsValidGroup_any p q g _).mono ?_
    rintro en w9 ⟨hen, hb9⟩
    rw [H1.out] at hen; subst hen
    replace E := E.trans hb9
    replace B0 := B0.ext hb9
    replace B1 := B1.ext hb9
    replace hc0 := hb9.cell hc0
    clear hb9 CC0 CC1
    have FZ := B1.frozen
    have C1 := B1.cells
    have CZ := (((B1.set_ 0 (.slice none 0 0)).set_ 1 (.slice none 0 0)).set_ 2 (.slice none 0 0)).cells
    go_wp2
    refine bodyPost_ret (v := .tuple #[.agg #[.slice none 0 0, .slice none 0 0, .slice none 0 0], .bool false]) (by simp [results, Try.results66, CZ, go_sem]) rfl (PrP.no (E.only (only_3 _ _ _ _ _) (fun b hb => by simp at hb; omega)))
  have H1 := Lib.hid h1
  have HB : Hid (GrpB p q) := (grpB_in h1).bd
  cases h2 : decide (s.size ≤ 40)
  · have H2 := Lib.hid h2
    have hv : plK p q g s rows xs ws = false := by unfold plK; simp only [h1, h2, Bool.true_and, Bool.false_and, Bool.and_false]
    rw [hv]
    clear hv
    have HB : Hid (GrpB p q) := (grpB_in h1).bd
    clear h1 h2
    go_enter Try.func66, Try.ntmps66
    have CC0 := B0.cells
    have CC1 := B1.cells
    go_wp2_with fail
    refine (IsValidGroup_any p q g _).mono ?_
    rintro en w9 ⟨hen, hb9⟩
    rw [H1.out] at hen; subst hen
    replace E := E.trans hb9
    replace B0 := B0.ext hb9
    replace B1 := B1.ext hb9
    replace hc0 := hb9.cell hc0
    clear hb9 CC0 CC1
    have CC0 := B0.cells
    have CC1 := B1.cells
    go_wp2_with fail
    refine (isLabel_any s _ (by omega)).mono ?_
    rintro en w9 ⟨hen, rfl⟩
    rw [H2.out] at hen; subst hen
    clear CC0 CC1
    have FZ := B1.frozen
    have C1 := B1.cells
    have CZ := (((B1.set_ 0 (.slice none 0 0)).set_ 1 (.slice none 0 0)).set_ 2 (.slice none 0 0)).cells
    go_wp2
    refine bodyPost_ret (v := .tuple #[.agg #[.slice none 0 0, .slice none 0 0, .slice none 0 0], .bool false]) (by simp [results, Try.results66, CZ, go_sem]) rfl (PrP.no (E.only (only_3 _ _ _ _ _) (fun b hb => by simp at hb; omega)))
  have H2 := Lib.hid h2
  cases h3 : rowsB p q rows
  · have H3 := Lib.hid h3
    have hv : plK p q g s rows xs ws = false := by unfold plK; simp only [h1, h2, h3, Bool.true_and, Bool.false_and, Bool.and_false]
    rw [hv]
    clear hv
    have HB : Hid (GrpB p q) := (grpB_in h1).bd
    clear h1 h2 h3
    go_enter Try.func66, Try.ntmps66
    have CC0 := B0.cells
    have CC1 := B1.cells
    go_wp2_with fail
    refine (IsValidGroup_any p q g _).mono ?_
    rintro en w9 ⟨hen, hb9⟩
    rw [H1.out] at hen; subst hen
    replace E := E.trans hb9
    replace B0 := B0.ext hb9
    replace B1 := B1.ext hb9
    replace hc0 := hb9.cell hc0
    clear hb9 CC0 CC1
    have CC0 := B0.cells
    have CC1 := B1.cells
    go_wp2_with fail
    refine (isLabel_any s _ (by omega)).mono ?_
    rintro en w9 ⟨hen, rfl⟩
    rw [H2.out] at hen; subst hen
    clear CC0 CC1
    have CC0 := B0.cells
    have CC1 := B1.cells
    go_wp2_with fail
    refine (areRows_any p q g (some ad) n c rows _ HB.out (ha.ext E) HL.out hn9).mono ?_
    rintro en w9 ⟨hen, hb9⟩
    rw [H3.out] at hen; subst hen
    replace E := E.trans hb9
    replace B0 := B0.ext hb9
    replace B1 := B1.ext hb9
    replace hc0 := hb9.cell hc0
    clear hb9 CC0 CC1
    have FZ := B1.frozen
    have C1 := B1.cells
    have CZ := (((B1.set_ 0 (.slice none 0 0)).set_ 1 (.slice none 0 0)).set_ 2 (.slice none 0 0)).cells
    go_wp2
    refine bodyPost_ret (v := .tuple #[.agg #[.slice none 0 0, .slice none 0 0, .slice none 0 0], .bool false]) (by simp [results, Try.results66, CZ, go_sem]) rfl (PrP.no (E.only (only_3 _ _ _ _ _) (fun b hb => by simp at hb; omega)))
  have H3 := Lib.hid h3
  cases h4 : allR xs 0 (q - 1)
  · have H4 := Lib.hid h4
    have hv : plK p q g s rows xs ws = false := by unfold plK; simp only [h1, h2, h3, h4, Bool.true_and, Bool.false_and, Bool.and_false]
    rw [hv]
    clear hv
    have HB : Hid (GrpB p q) := (grpB_in h1).bd
    clear h1 h2 h3 h4
    go_enter Try.func66, Try.ntmps66
    have CC0 := B0.cells
    have CC1 := B1.cells
    go_wp2_with fail
    refine (IsValidGroup_any p q g _).mono ?_
    rintro en w9 ⟨hen, hb9⟩
    rw [H1.out] at hen; subst hen
    replace E := E.trans hb9
    replace B0 := B0.ext hb9
    replace B1 := B1.ext hb9
    replace hc0 := hb9.cell hc0
    clear hb9 CC0 CC1
    have CC0 := B0.cells
    have CC1 := B1.cells
    go_wp2_with fail
    refine (isLabel_any s _ (by omega)).mono ?_
    rintro en w9 ⟨hen, rfl⟩
    rw [H2.out] at hen; subst hen
    clear CC0 CC1
    have CC0 := B0.cells
    have CC1 := B1.cells
    go_wp2_with fail
    refine (areRows_any p q g (some ad) n c rows _ HB.out (ha.ext E) HL.out hn9).mono ?_
    rintro en w9 ⟨hen, hb9⟩
    rw [H3.out] at hen; subst hen
    replace E := E.trans hb9
    replace B0 := B0.ext hb9
    replace B1 := B1.ext hb9
    replace hc0 := hb9.cell hc0
    clear hb9 CC0 CC1
    have CC0 := B0.cells
    have CC1 := B1.cells
    go_wp2_with fail
    refine (areExps_any p q g D m d xs _ HB.out (hb.rd.ext E) hb.len hm99).mono ?_
    rintro en w9 ⟨hen, hb9⟩
    rw [H4.out] at hen; subst hen
    replace E := E.trans hb9
    replace B0 := B0.ext hb9
    replace B1 := B1.ext hb9
    replace hc0 := hb9.cell hc0
    clear hb9 CC0 CC1
    have FZ := B1.frozen
    have C1 := B1.cells
    have CZ := (((B1.set_ 0 (.slice none 0 0)).set_ 1 (.slice none 0 0)).set_ 2 (.slice none 0 0)).cells
    go_wp2
    refine bodyPost_ret (v := .tuple #[.agg #[.slice none 0 0, .slice none 0 0, .slice none 0 0], .bool false]) (by simp [results, Try.results66, CZ, go_sem]) rfl (PrP.no (E.only (only_3 _ _ _ _ _) (fun b hb => by simp at hb; omega)))
  have H4 := Lib.hid h4
  cases h5 : allR ws 0 (q - 1)
  · have H5 := Lib.hid h5
    have hv : plK p q g s rows xs ws = false := by unfold plK; simp only [h1, h2, h3, h4, h5, Bool.true_and, Bool.false_and, Bool.and_false]
    rw [hv]
    clear hv
    have HB : Hid (GrpB p q) := (grpB_in h1).bd
    clear h1 h2 h3 h4 h5
    go_enter Try.func66, Try.ntmps66
    have CC0 := B0.cells
    have CC1 := B1.cells
    go_wp2_with fail
    refine (IsValidGroup_any p q g _).mono ?_
    rintro en w9 ⟨hen, hb9⟩
    rw [H1.out] at hen; subst hen
    replace E := E.trans hb9
    replace B0 := B0.ext hb9
    replace B1 := B1.ext hb9
    replace hc0 := hb9.cell hc0
    clear hb9 CC0 CC1
    have CC0 := B0.cells
    have CC1 := B1.cells
    go_wp2_with fail
    refine (isLabel_any s _ (by omega)).mono ?_
    rintro en w9 ⟨hen, rfl⟩
    rw [H2.out] at hen; subst hen
    clear CC0 CC1
    have CC0 := B0.cells
    have CC1 := B1.cells
    go_wp2_with fail
    refine (areRows_any p q g (some ad) n c rows _ HB.out (ha.ext E) HL.out hn9).mono ?_
    rintro en w9 ⟨hen, hb9⟩
    rw [H3.out] at hen; subst hen
    replace E := E.trans hb9
    replace B0 := B0.ext hb9
    replace B1 := B1.ext hb9
    replace hc0 := hb9.cell hc0
    clear hb9 CC0 CC1
    have CC0 := B0.cells
    have CC1 := B1.cells
    go_wp2_with fail
    refine (areExps_any p q g D m d xs _ HB.out (hb.rd.ext E) hb.len hm99).mono ?_
    rintro en w9 ⟨hen, hb9⟩
    rw [H4.out] at hen; subst hen
    replace E := E.trans hb9
    replace B0 := B0.ext hb9
    replace B1 := B1.ext hb9
    replace hc0 := hb9.cell hc0
    clear hb9 CC0 CC1
    have CC0 := B0.cells
    have CC1 := B1.cells
    go_wp2_with fail
    refine (areExps_any p q g F m f ws _ HB.out (hc.rd.ext E) hc.len hm99).mono ?_
    rintro en w9 ⟨hen, hb9⟩
    rw [H5.out] at hen; subst hen
    replace E := E.trans hb9
    replace B0 := B0.ext hb9
    replace B1 := B1.ext hb9
    replace hc0 := hb9.cell hc0
    clear hb9 CC0 CC1
    have FZ := B1.frozen
    have C1 := B1.cells
    have CZ := (((B1.set_ 0 (.slice none 0 0)).set_ 1 (.slice none 0 0)).set_ 2 (.slice none 0 0)).cells
    go_wp2
    refine bodyPost_ret (v := .tuple #[.agg #[.slice none 0 0, .slice none 0 0, .slice none 0 0], .bool false]) (by simp [results, Try.results66, CZ, go_sem]) rfl (PrP.no (E.only (only_3 _ _ _ _ _) (fun b hb => by simp at hb; omega)))
  have H5 := Lib.hid h5
  have hv : plK p q g s rows xs ws = true := by unfold plK; simp only [h1, h2, h3, h4, h5, Bool.and_self]
  rw [hv]
  have hs40 := of_decide_eq_true h2
  have HB : Hid (GrpB p q) := (grpB_in h1).bd
  have HG1 := Lib.hid h1
  have HR := Lib.hid h3
  have HX := Lib.hid h4
  have HW := Lib.hid h5
  clear hv h1 h2 h3 h4 h5
  go_enter Try.func66, Try.ntmps66
  have CC0 := B0.cells
  have CC1 := B1.cells
  go_wp2_with fail
  refine (IsValidGroup_any p q g _).mono ?_
  rintro en w9 ⟨hen, hb9⟩
  rw [H1.out] at hen; subst hen
  replace E := E.trans hb9
  replace B0 := B0.ext hb9
  replace B1 := B1.ext hb9
  replace hc0 := hb9.cell hc0
  clear hb9 CC0 CC1
  have CC0 := B0.cells
  have CC1 := B1.cells
  go_wp2_with fail
  refine (isLabel_any s _ (by omega)).mono ?_
  rintro en w9 ⟨hen, rfl⟩
  rw [H2.out] at hen; subst hen
  clear CC0 CC1
  have CC0 := B0.cells
  have CC1 := B1.cells
  go_wp2_with fail
  refine (areRows_any p q g (some ad) n c rows _ HB.out (ha.ext E) HL.out hn9).mono ?_
  rintro en w9 ⟨hen, hb9⟩
  rw [H3.out] at hen; subst hen
  replace E := E.trans hb9
  replace B0 := B0.ext hb9
  replace B1 := B1.ext hb9
  replace hc0 := hb9.cell hc0
  clear hb9 CC0 CC1
  have CC0 := B0.cells
  have CC1 := B1.cells
  go_wp2_with fail
  refine (areExps_any p q g D m d xs _ HB.out (hb.rd.ext E) hb.len hm99).mono ?_
  rintro en w9 ⟨hen, hb9⟩
  rw [H4.out] at hen; subst hen
  replace E := E.trans hb9
  replace B0 := B0.ext hb9
  replace B1 := B1.ext hb9
  replace hc0 := hb9.cell hc0
  clear hb9 CC0 CC1
  have CC0 := B0.cells
  have CC1 := B1.cells
  go_wp2_with fail
  refine (areExps_any p q g F m f ws _ HB.out (hc.rd.ext E) hc.len hm99).mono ?_
  rintro en w9 ⟨hen, hb9⟩
  rw [H5.out] at hen; subst hen
  replace E := E.trans hb9
  replace B0 := B0.ext hb9
  replace B1 := B1.ext hb9
  replace hc0 := hb9.cell hc0
  clear hb9 CC0 CC1
  have CC0 := B0.cells
  go_wp2_with fail
  refine (proveLinear_any p q g s (some ad) D F n c m d f rows xs ws _ HG1.out hs40 HR.out (ha.ext E) HL.out (hb.ext E) (hc.ext E) HM.out HX.out HW.out).mono ?_
  rintro en w2 ⟨A1, c1, A2, c2, A3, c3, rfl, s1, s2, s3, hb2⟩
  have E2 := E.trans hb2
  have B3 := B1.ext hb2
  have FZ := B3.frozen
  have C1 := B3.cells
  have CZ := (((B3.set_ 0 (.slice A1 n c1)).set_ 1 (.slice A2 1 c2)).set_ 2 (.slice A3 m c3)).cells
  have hon := only_3 w2 (w.heap.size + 1) (.slice A1 n c1) (.slice A2 1 c2) (.slice A3 m c3)
  clear CC0
  go_wp2
  refine bodyPost_ret (v := .tuple #[.agg #[.slice A1 n c1, .slice A2 1 c2, .slice A3 m c3], .bool true]) (by simp [results, Try.results66, CZ, go_sem]) rfl ⟨A1, n, c1, A2, 1, c2, A3, m, c3, rfl, s1.far B3 z3_no hon, s2.far B3 z3_no hon, s3.far B3 z3_no hon, E2.only hon (fun b hb => by simp at hb; omega)⟩
set_option maxRecDepth 100000 in
set_option maxHeartbeats 8000000 in
theorem VerifyLinear_any (p q g : Int) (s : ByteArray) (A D C1 C2 C3 : Option Addr) (n c d k1 e1 k2 e2 k3 e3 : Nat) (rows : List (List Int)) (im cm ch rs : List Int) (w : World) (hs : s.size ≤ 1000) (ha : RdSS w A rows) (hl : rows.length = n) (hn : n ≤ 8) (hb : SlI w D n d im) (s1 : SlI w C1 k1 e1 cm) (s2 : SlI w C2 k2 e2 ch) (s3 : SlI w C3 k3 e3 rs) :
    Calls Try.prog 72 #[.agg #[.int .i64 p, .int .i64 q, .int .i64 g], .string s, .slice A n c, .slice D n d, .agg #[.slice C1 k1 e1, .slice C2 k2 e2, .slice C3 k3 e3]] w fun en w' => en = .returned (.tuple #[.bool (vlK p q g s rows im && lvB p q g s rows im cm ch rs), .bool (vlK p q g s rows im)]) ∧ Ext w w' := by
  have HL := Lib.hid hl
  have hn9 : n ≤ maxLen := by unfold maxLen; omega
  have d1 : ((n : Int) != (n : Int)) = false := by simp
  clear hl
  have E := (((Ext.refl w).alloc (.cells #[.int .i64 p, .int .i64 q, .int .i64 g] 38)).alloc (.cells #[.slice C1 k1 e1, .slice C2 k2 e2, .slice C3 k3 e3] 44))
  have B0 := ((Blk.new w 38 #[.int .i64 p, .int .i64 q, .int .i64 g]).alloc (.cells #[.slice C1 k1 e1, .slice C2 k2 e2, .slice C3 k3 e3] 44))
  have B1 := (Blk.new (w.alloc (.cells #[.int .i64 p, .int .i64 q, .int .i64 g] 38)) 44 #[.slice C1 k1 e1, .slice C2 k2 e2, .slice C3 k3 e3])
  simp only [World.size_alloc] at B1
  cases h1 : grpB p q g
  · have H1 := Lib.hid h1
    have hv : vlK p q g s rows im = false := by unfold vlK; simp only [h1, Bool.true_and, Bool.false_and, Bool.and_false]
    have HV := Lib.hid hv
    clear hv
    clear h1
    go_enter Try.func72, Try.ntmps72
    have CC0 := B0.cells
    have CC1 := B1.cells
    go_wp2_with fail
    refine (IsValidGroup_any p q g _).mono ?_
    rintro en w9 ⟨hen, hb9⟩
    rw [H1.out] at hen; subst hen
    replace E := E.trans hb9
    replace B0 := B0.ext hb9
    replace B1 := B1.ext hb9
    clear hb9 CC0 CC1
    go_wp2
    go_ret2
    exact ⟨by rw [HV.out, Bool.false_and]; rfl, E⟩
  have H1 := Lib.hid h1
  have HB : Hid (GrpB p q) := (grpB_in h1).bd
  cases h2 : decide (s.size ≤ 40)
  · have H2 := Lib.hid h2
    have hv : vlK p q g s rows im = false := by unfold vlK; simp only [h1, h2, Bool.true_and, Bool.false_and, Bool.and_false]
    have HV := Lib.hid hv
    clear hv
    have HB : Hid (GrpB p q) := (grpB_in h1).bd
    clear h1 h2
    go_enter Try.func72, Try.ntmps72
    have CC0 := B0.cells
    have CC1 := B1.cells
    go_wp2_with fail
    refine (IsValidGroup_any p q g _).mono ?_
    rintro en w9 ⟨hen, hb9⟩
    rw [H1.out] at hen; subst hen
    replace E := E.trans hb9
    replace B0 := B0.ext hb9
    replace B1 := B1.ext hb9
    clear hb9 CC0 CC1
    have CC0 := B0.cells
    have CC1 := B1.cells
    go_wp2_with fail
    refine (isLabel_any s _ (by omega)).mono ?_
    rintro en w9 ⟨hen, rfl⟩
    rw [H2.out] at hen; subst hen
    clear CC0 CC1
    go_wp2
    go_ret2
    exact ⟨by rw [HV.out, Bool.false_and]; rfl, E⟩
  have H2 := Lib.hid h2
  cases h3 : rowsB p q rows
  · have H3 := Lib.hid h3
    have hv : vlK p q g s rows im = false := by unfold vlK; simp only [h1, h2, h3, Bool.true_and, Bool.false_and, Bool.and_false]
    have HV := Lib.hid hv
    clear hv
    have HB : Hid (GrpB p q) := (grpB_in h1).bd
    clear h1 h2 h3
    go_enter Try.func72, Try.ntmps72
    have CC0 := B0.cells
    have CC1 := B1.cells
    go_wp2_with fail
    refine (IsValidGroup_any p q g _).mono ?_
    rintro en w9 ⟨hen, hb9⟩
    rw [H1.out] at hen; subst hen
    replace E := E.trans hb9
    replace B0 := B0.ext hb9
    replace B1 := B1.ext hb9
    clear hb9 CC0 CC1
    have CC0 := B0.cells
    have CC1 := B1.cells
    go_wp2_with fail
    refine (isLabel_any s _ (by omega)).mono ?_
    rintro en w9 ⟨hen, rfl⟩
    rw [H2.out] at hen; subst hen
    clear CC0 CC1
    have CC0 := B0.cells
    have CC1 := B1.cells
    go_wp2_with fail
    refine (areRows_any p q g A n c rows _ HB.out (ha.ext E) HL.out hn9).mono ?_
    rintro en w9 ⟨hen, hb9⟩
    rw [H3.out] at hen; subst hen
    replace E := E.trans hb9
    replace B0 := B0.ext hb9
    replace B1 := B1.ext hb9
    clear hb9 CC0 CC1
    go_wp2
    go_ret2
    exact ⟨by rw [HV.out, Bool.false_and]; rfl, E⟩
  have H3 := Lib.hid h3
  cases h4 : im.all (elB p q)
  · have H4 := Lib.hid h4
    have hv : vlK p q g s rows im = false := by unfold vlK; simp only [h1, h2, h3, h4, Bool.true_and, Bool.false_and, Bool.and_false]
    have HV := Lib.hid hv
    clear hv
    have HB : Hid (GrpB p q) := (grpB_in h1).bd
    clear h1 h2 h3 h4
    go_enter Try.func72, Try.ntmps72
    have CC0 := B0.cells
    have CC1 := B1.cells
    go_wp2_with fail
    refine (IsValidGroup_any p q g _).mono ?_
    rintro en w9 ⟨hen, hb9⟩
    rw [H1.out] at hen; subst hen
    replace E := E.trans hb9
    replace B0 := B0.ext hb9
    replace B1 := B1.ext hb9
    clear hb9 CC0 CC1
    have CC0 := B0.cells
    have CC1 := B1.cells
    go_wp2_with fail
    refine (isLabel_any s _ (by omega)).mono ?_
    rintro en w9 ⟨hen, rfl⟩
    rw [H2.out] at hen; subst hen
    clear CC0 CC1
    have CC0 := B0.cells
    have CC1 := B1.cells
    go_wp2_with fail
    refine (areRows_any p q g A n c rows _ HB.out (ha.ext E) HL.out hn9).mono ?_
    rintro en w9 ⟨hen, hb9⟩
    rw [H3.out] at hen; subst hen
    replace E := E.trans hb9
    replace B0 := B0.ext hb9
    replace B1 := B1.ext hb9
    clear hb9 CC0 CC1
    have CC0 := B0.cells
    have CC1 := B1.cells
    go_wp2_with fail
    refine (hasAll_any p q g D n d im _ HB.out (hb.rd.ext E) hb.len hn9).mono ?_
    rintro en w9 ⟨hen, hb9⟩
    rw [H4.out] at hen; subst hen
    replace E := E.trans hb9
    replace B0 := B0.ext hb9
    replace B1 := B1.ext hb9
    clear hb9 CC0 CC1
    go_wp2
    go_ret2
    exact ⟨by rw [HV.out, Bool.false_and]; rfl, E⟩
  have H4 := Lib.hid h4
  have hv : vlK p q g s rows im = true := by unfold vlK; simp only [h1, h2, h3, h4, Bool.and_self]
  have HV := Lib.hid hv
  have hs40 := of_decide_eq_true h2
  have HB : Hid (GrpB p q) := (grpB_in h1).bd
  have HG1 := Lib.hid h1
  have HR := Lib.hid h3
  have HX := Lib.hid h4
  obtain ⟨lv, hlv⟩ : ∃ lv, lvB p q g s rows im cm ch rs = lv := ⟨_, rfl⟩
  have HLV := Lib.hid hlv
  clear hv h1 h2 h3 h4 hlv
  go_enter Try.func72, Try.ntmps72
  have CC0 := B0.cells
  have CC1 := B1.cells
  go_wp2_with fail
  refine (IsValidGroup_any p q g _).mono ?_
  rintro en w9 ⟨hen, hb9⟩
  rw [H1.out] at hen; subst hen
  replace E := E.trans hb9
  replace B0 := B0.ext hb9
  replace B1 := B1.ext hb9
  clear hb9 CC0 CC1
  have CC0 := B0.cells
  have CC1 := B1.cells
  go_wp2_with fail
  refine (isLabel_any s _ (by omega)).mono ?_
  rintro en w9 ⟨hen, rfl⟩
  rw [H2.out] at hen; subst hen
  clear CC0 CC1
  have CC0 := B0.cells
  have CC1 := B1.cells
  go_wp2_with fail
  refine (areRows_any p q g A n c rows _ HB.out (ha.ext E) HL.out hn9).mono ?_
  rintro en w9 ⟨hen, hb9⟩
  rw [H3.out] at hen; subst hen
  replace E := E.trans hb9
  replace B0 := B0.ext hb9
  replace B1 := B1.ext hb9
  clear hb9 CC0 CC1
  have CC0 := B0.cells
  have CC1 := B1.cells
  go_wp2_with fail
  refine (hasAll_any p q g D n d im _ HB.out (hb.rd.ext E) hb.len hn9).mono ?_
  rintro en w9 ⟨hen, hb9⟩
  rw [H4.out] at hen; subst hen
  replace E := E.trans hb9
  replace B0 := B0.ext hb9
  replace B1 := B1.ext hb9
  clear hb9 CC0 CC1
  have CC0 := B0.cells
  have CC1 := B1.cells
  go_wp2_with fail
  refine (verifyLinear_any p q g s A D C1 C2 C3 n c n d k1 e1 k2 e2 k3 e3 rows im cm ch rs _ HG1.out hs40 HR.out (ha.ext E) HL.out (hb.ext E) rfl HX.out (s1.ext E) (s2.ext E) (s3.ext E)).mono ?_
  rintro en w2 ⟨he, hb2⟩
  rw [HLV.out] at he; subst he
  go_wp2
  go_ret2
  exact ⟨by rw [HV.out, Bool.true_and, HLV.out]; rfl, E.trans hb2⟩
/-- A literal of one int, of two. -/
theorem sl_new {w V : World} {y : Int} {k : Nat} (hk : k = w.heap.size) (h : Ext (w.alloc (.cells #[.int .i64 y] 3)) V) : SlI V (some ⟨k, 0, none⟩) 1 1 [y] :=
  ⟨(rd_one (w := w) hk).ext h, rfl, Nat.le_refl _, by unfold maxLen; omega⟩
theorem sl_new2 {w V : World} {y z : Int} {k : Nat} (hk : k = w.heap.size) (h : Ext (w.alloc (.cells #[.int .i64 y, .int .i64 z] 3)) V) : SlI V (some ⟨k, 0, none⟩) 2 2 [y, z] :=
  ⟨(rd_two (w := w) hk).ext h, rfl, Nat.le_refl _, by unfold maxLen; omega⟩
theorem SlI.lit {w V : World} {A : Option Addr} {n c : Nat} {l : List Int} (h : SlI w A n c l) (hE : Ext w V) : SlI V A n c l := h.ext hE
set_option maxRecDepth 100000 in
set_option maxHeartbeats 4000000 in
theorem ProveKnowledge_any (p q g : Int) (s : ByteArray) (b x c0 : Int) (w : World) (hs : s.size ≤ 1000) :
    Calls Try.prog 23 #[.agg #[.int .i64 p, .int .i64 q, .int .i64 g], .string s, .int .i64 b, .int .i64 x, .int .i64 c0] w fun en w' => PrP (plK p q g s [[b]] [x] [c0]) (imgL p q [[b]] [c0]) [lpE p q g s [[b]] [x] [c0]] (rspL q (lpE p q g s [[b]] [x] [c0]) [c0] [x]) w en w' := by
  obtain ⟨K, hK⟩ : ∃ K, plK p q g s [[b]] [x] [c0] = K := ⟨_, rfl⟩
  rw [hK]
  have HK := Lib.hid hK
  clear hK
  have E := (((Ext.refl w).alloc (.cells #[.int .i64 p, .int .i64 q, .int .i64 g] 38)).alloc (.cells #[.slice none 0 0, .slice none 0 0, .slice none 0 0] 44))
  have B0 := ((Blk.new w 38 #[.int .i64 p, .int .i64 q, .int .i64 g]).alloc (.cells #[.slice none 0 0, .slice none 0 0, .slice none 0 0] 44))
  have B1 := (Blk.new (w.alloc (.cells #[.int .i64 p, .int .i64 q, .int .i64 g] 38)) 44 #[.slice none 0 0, .slice none 0 0, .slice none 0 0])
  simp only [World.size_alloc] at B1
  have hz : ((w.alloc (.cells #[.int .i64 p, .int .i64 q, .int .i64 g] 38)).alloc (.cells #[.slice none 0 0, .slice none 0 0, .slice none 0 0] 44)).heap.size = w.heap.size + 1 + 1 := by simp only [World.size_alloc]
  have CC0 := B0.cells
  go_enter Try.func23, Try.ntmps23
  go_wp2_with fail
  generalize (w.alloc (.cells #[.int .i64 p, .int .i64 q, .int .i64 g] 38)).alloc (.cells #[.slice none 0 0, .slice none 0 0, .slice none 0 0] 44) = Wb at *
  have a1 := (Ext.refl Wb).alloc (.cells #[.int .i64 b] 3)
  have a2 := (Ext.refl (Wb.alloc (.cells #[.int .i64 b] 3))).alloc (.cells #[.slice (some ⟨w.heap.size + 1 + 1, 0, none⟩) 1 1] 28)
  have a3 := (Ext.refl ((Wb.alloc (.cells #[.int .i64 b] 3)).alloc (.cells #[.slice (some ⟨w.heap.size + 1 + 1, 0, none⟩) 1 1] 28))).alloc (.cells #[.int .i64 x] 3)
  have a4 := (Ext.refl (((Wb.alloc (.cells #[.int .i64 b] 3)).alloc (.cells #[.slice (some ⟨w.heap.size + 1 + 1, 0, none⟩) 1 1] 28)).alloc (.cells #[.int .i64 x] 3))).alloc (.cells #[.int .i64 c0] 3)
  have r1 := (sl_new (w := Wb) (y := b) (k := w.heap.size + 1 + 1) (by omega) (Ext.refl _)).ext ((a2.trans a3).trans a4)
  have r2 := rdSS_lit1 (w := Wb.alloc (.cells #[.int .i64 b] 3)) (t := 28) (k := w.heap.size + 1 + 1 + 1) (by simp; omega) (a3.trans a4) r1
  have r3 := (sl_new (w := (Wb.alloc (.cells #[.int .i64 b] 3)).alloc (.cells #[.slice (some ⟨w.heap.size + 1 + 1, 0, none⟩) 1 1] 28)) (y := x) (k := w.heap.size + 1 + 1 + 1 + 1) (by simp; omega) (Ext.refl _)).ext a4
  have r4 := sl_new (w := ((Wb.alloc (.cells #[.int .i64 b] 3)).alloc (.cells #[.slice (some ⟨w.heap.size + 1 + 1, 0, none⟩) 1 1] 28)).alloc (.cells #[.int .i64 x] 3)) (y := c0) (k := w.heap.size + 1 + 1 + 1 + 1 + 1) (by simp; omega) (Ext.refl _)
  have E4 := (((E.trans a1).trans a2).trans a3).trans a4
  have B4 := (((B1.ext a1).ext a2).ext a3).ext a4
  refine (ProveLinear_any p q g s _ _ _ 1 1 1 1 1 [[b]] [x] [c0] _ hs r2 rfl (by omega) r3 r4 rfl (by omega)).mono ?_
  rintro en w9 ⟨A1, n1, c1, A2, n2, c2, A3, n3, c3, he, t1, t2, t3, hb9⟩
  rw [HK.out] at he t1 t2 t3; subst he
  have E9 := E4.trans hb9
  have B9 := B4.ext hb9
  have FZ := B9.frozen
  have C9 := B9.cells
  have CZ := (((B9.set_ 0 (.slice A1 n1 c1)).set_ 1 (.slice A2 n2 c2)).set_ 2 (.slice A3 n3 c3)).cells
  have hon := only_3 w9 (w.heap.size + 1) (.slice A1 n1 c1) (.slice A2 n2 c2) (.slice A3 n3 c3)
  clear a1 a2 a3 a4 CC0
  go_wp2
  refine bodyPost_ret (v := .tuple #[.agg #[.slice A1 n1 c1, .slice A2 n2 c2, .slice A3 n3 c3], .bool K]) (by simp [results, Try.results23, CZ, go_sem]) rfl ⟨A1, n1, c1, A2, n2, c2, A3, n3, c3, rfl, t1.far B9 z3_no hon, t2.far B9 z3_no hon, t3.far B9 z3_no hon, E9.only hon (fun b hb => by simp at hb; omega)⟩
set_option maxRecDepth 100000 in
set_option maxHeartbeats 4000000 in
theorem VerifyKnowledge_any (p q g : Int) (s : ByteArray) (b y : Int) (C1 C2 C3 : Option Addr) (k1 e1 k2 e2 k3 e3 : Nat) (cm ch rs : List Int) (w : World) (hs : s.size ≤ 1000) (s1 : SlI w C1 k1 e1 cm) (s2 : SlI w C2 k2 e2 ch) (s3 : SlI w C3 k3 e3 rs) :
    Calls Try.prog 24 #[.agg #[.int .i64 p, .int .i64 q, .int .i64 g], .string s, .int .i64 b, .int .i64 y, .agg #[.slice C1 k1 e1, .slice C2 k2 e2, .slice C3 k3 e3]] w fun en w' => en = .returned (.tuple #[.bool (vlK p q g s [[b]] [y] && lvB p q g s [[b]] [y] cm ch rs), .bool (vlK p q g s [[b]] [y])]) ∧ Ext w w' := by
  obtain ⟨K, hK⟩ : ∃ K, vlK p q g s [[b]] [y] = K := ⟨_, rfl⟩
  obtain ⟨V, hV⟩ : ∃ V, (vlK p q g s [[b]] [y] && lvB p q g s [[b]] [y] cm ch rs) = V := ⟨_, rfl⟩
  rw [hV, hK]
  have HK := Lib.hid hK
  have HV := Lib.hid hV
  clear hK hV
  have E := (((Ext.refl w).alloc (.cells #[.int .i64 p, .int .i64 q, .int .i64 g] 38)).alloc (.cells #[.slice C1 k1 e1, .slice C2 k2 e2, .slice C3 k3 e3] 44))
  have B0 := ((Blk.new w 38 #[.int .i64 p, .int .i64 q, .int .i64 g]).alloc (.cells #[.slice C1 k1 e1, .slice C2 k2 e2, .slice C3 k3 e3] 44))
  have B1 := (Blk.new (w.alloc (.cells #[.int .i64 p, .int .i64 q, .int .i64 g] 38)) 44 #[.slice C1 k1 e1, .slice C2 k2 e2, .slice C3 k3 e3])
  simp only [World.size_alloc] at B1
  have hz : ((w.alloc (.cells #[.int .i64 p, .int .i64 q, .int .i64 g] 38)).alloc (.cells #[.slice C1 k1 e1, .slice C2 k2 e2, .slice C3 k3 e3] 44)).heap.size = w.heap.size + 1 + 1 := by simp only [World.size_alloc]
  have CC0 := B0.cells
  have CC1 := B1.cells
  go_enter Try.func24, Try.ntmps24
  go_wp2_with fail
  generalize (w.alloc (.cells #[.int .i64 p, .int .i64 q, .int .i64 g] 38)).alloc (.cells #[.slice C1 k1 e1, .slice C2 k2 e2, .slice C3 k3 e3] 44) = Wb at *
  have a1 := (Ext.refl Wb).alloc (.cells #[.int .i64 b] 3)
  have a2 := (Ext.refl (Wb.alloc (.cells #[.int .i64 b] 3))).alloc (.cells #[.slice (some ⟨w.heap.size + 1 + 1, 0, none⟩) 1 1] 28)
  have a3 := (Ext.refl ((Wb.alloc (.cells #[.int .i64 b] 3)).alloc (.cells #[.slice (some ⟨w.heap.size + 1 + 1, 0, none⟩) 1 1] 28))).alloc (.cells #[.int .i64 y] 3)
  have r1 := (sl_new (w := Wb) (y := b) (k := w.heap.size + 1 + 1) (by omega) (Ext.refl _)).ext (a2.trans a3)
  have r2 := rdSS_lit1 (w := Wb.alloc (.cells #[.int .i64 b] 3)) (t := 28) (k := w.heap.size + 1 + 1 + 1) (by simp; omega) a3 r1
  have r3 := sl_new (w := (Wb.alloc (.cells #[.int .i64 b] 3)).alloc (.cells #[.slice (some ⟨w.heap.size + 1 + 1, 0, none⟩) 1 1] 28)) (y := y) (k := w.heap.size + 1 + 1 + 1 + 1) (by simp; omega) (Ext.refl _)
  have E4 := ((E.trans a1).trans a2).trans a3
  refine (VerifyLinear_any p q g s _ _ C1 C2 C3 1 1 1 k1 e1 k2 e2 k3 e3 [[b]] [y] cm ch rs _ hs r2 rfl (by omega) r3 (s1.ext E4) (s2.ext E4) (s3.ext E4)).mono ?_
  rintro en w9 ⟨he, hb9⟩
  rw [HV.out, HK.out] at he; subst he
  clear a1 a2 a3 CC0 CC1
  go_wp2
  go_ret2
  exact ⟨rfl, E4.trans hb9⟩
end Go.Proofs.Ytpfccboighdcbaa
