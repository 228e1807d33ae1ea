/- Contracts for VerifyMatrix, both sides. (Printed by tools/gen_vmx6.py.) -/
import Derived.Test.YtnhdohjlbchniaaProg
import Derived.Test.YtnhdohjlbchniaaVmx4
import Derived.Test.YtnhdohjlbchniaaVmx5
namespace Go.Proofs.Ytnhdohjlbchniaa
open Go.RowKit
set_option linter.unusedVariables false
set_option linter.unusedSimpArgs false
/-- What VerifyMatrix says of its arguments' form. -/
noncomputable def vfK (p q g key : Int) (a b : List (Int × Int)) : Bool := mxB p q g key a && (basK p q g a.length && amB p q b)
noncomputable def vfB (p q g key : Int) (a b : List (Int × Int)) (co cn cm ch rs : List Int) : Bool := vfK p q g key a b && vmV p q g key a b co cn cm ch rs
theorem bas_els {p q g : Int} {n : Nat} (h : grpB p q g = true) (hk : basK p q g n = true) : elB p q (derV p q g ⟨#[104]⟩ 0) = true ∧ (derL p q g ⟨#[104, 115]⟩ n).all (elB p q) = true := by
  unfold basK at hk
  rw [Bool.and_eq_true, bne_iff_ne] at hk
  refine ⟨(derV_out h _ _ hk.1).1, List.all_eq_true.2 fun x hx => ?_⟩
  unfold derL at hx
  obtain ⟨k, h1, rfl⟩ := List.mem_map.1 hx
  exact (derV_out h _ _ (derA_mem hk.2 (List.mem_range.1 h1))).1
theorem vf_no {p q g key : Int} {a b : List (Int × Int)} {co cn cm ch rs : List Int} (h : vfK p q g key a b = false) {w w' : World} (hE : Ext w w') :
    Ending.returned (.tuple #[.bool false, .bool false]) = .returned (.tuple #[.bool (vfB p q g key a b co cn cm ch rs), .bool (vfK p q g key a b)]) ∧ Ext w w' := by
  unfold vfB; rw [h]; exact ⟨rfl, hE⟩
theorem vf_yes {p q g key : Int} {a b : List (Int × Int)} {co cn cm ch rs : List Int} {v : Bool} (h : vfK p q g key a b = true) (hv : vmV p q g key a b co cn cm ch rs = v) {w w' : World} (hE : Ext w w') :
    Ending.returned (.tuple #[.bool v, .bool true]) = .returned (.tuple #[.bool (vfB p q g key a b co cn cm ch rs), .bool (vfK p q g key a b)]) ∧ Ext w w' := by
  unfold vfB; rw [h, hv]; exact ⟨rfl, hE⟩
set_option maxRecDepth 100000 in
set_option maxHeartbeats 8000000 in
theorem iVerifyMatrix_any (p q g key : Int) (A : Option Addr) (n c : Nat) (B : Option Addr) (m d : Nat) (a b : List (Int × Int)) (C1 : Option Addr) (k1 e1 : Nat) (C2 : Option Addr) (k2 e2 : Nat) (C3 : Option Addr) (k3 e3 : Nat) (C4 : Option Addr) (k4 e4 : Nat) (C5 : Option Addr) (k5 e5 : Nat) (co cn cm ch rs : List Int) (w : World) (ha : RdC w A a) (hla : a.length = n) (hn : n ≤ maxLen) (hb : RdC w B b) (hlb : b.length = m) (hm : m ≤ maxLen) (s1 : SlI w C1 k1 e1 co) (s2 : SlI w C2 k2 e2 cn) (s3 : SlI w C3 k3 e3 cm) (s4 : SlI w C4 k4 e4 ch) (s5 : SlI w C5 k5 e5 rs) :
    Calls Try.prog 24 #[.agg #[.int .i64 p, .int .i64 q, .int .i64 g], .int .i64 key, .slice A n c, .slice B m d, .agg #[.slice C1 k1 e1, .slice C2 k2 e2, .slice C3 k3 e3, .slice C4 k4 e4, .slice C5 k5 e5]] w fun en w' => en = .returned (.tuple #[.bool (vfB p q g key a b co cn cm ch rs), .bool (vfK p q g key a b)]) ∧ Ext w w' := by
  have HA := Lib.hid hla
  have HBL := Lib.hid hlb
  have E := (((Ext.refl w).alloc (.cells #[.int .i64 p, .int .i64 q, .int .i64 g] 31)).alloc (.cells #[.slice C1 k1 e1, .slice C2 k2 e2, .slice C3 k3 e3, .slice C4 k4 e4, .slice C5 k5 e5] 56))
  have B0 := ((Blk.new w 31 #[.int .i64 p, .int .i64 q, .int .i64 g]).alloc (.cells #[.slice C1 k1 e1, .slice C2 k2 e2, .slice C3 k3 e3, .slice C4 k4 e4, .slice C5 k5 e5] 56))
  have B1 := (Blk.new (w.alloc (.cells #[.int .i64 p, .int .i64 q, .int .i64 g] 31)) 56 #[.slice C1 k1 e1, .slice C2 k2 e2, .slice C3 k3 e3, .slice C4 k4 e4, .slice C5 k5 e5])
  simp only [World.size_alloc] at B1
  cases h1 : (mxB p q g key a && basK p q g n)
  case false =>
    have H1 := Lib.hid h1
    have HV : Hid (vfK p q g key a b = false) := by show _ = _; unfold vfK; rw [hla, ← Bool.and_assoc, h1]; rfl
    clear h1 hla hlb
    go_enter Try.func24, Try.ntmps24
    have CC0 := B0.cells
    have CC1 := B1.cells
    go_wp2_with fail
    refine (mixBases_any p q g key A n c a _ (ha.ext E) HA.out hn).mono ?_
    rintro en w4 ⟨X, AX, mX, cX, hen, hyes, hno, hb9⟩
    rw [H1.out] at hen hyes hno; subst hen
    replace E := (E.trans hb9).alloc (.cells #[.int .i64 X, .slice AX mX cX] 86)
    clear hb9 hyes hno CC0 CC1
    go_wp2
    go_ret2
    exact vf_no HV.out E
  have H1 := Lib.hid h1
  have h2 := h1
  rw [Bool.and_eq_true] at h2
  obtain ⟨MX, BK⟩ := h2
  have hGB : GrpB p q := by unfold mxB at MX; rw [Bool.and_eq_true] at MX; exact (grpB_in MX.1).bd
  cases BM : amB p q b
  case false =>
    have H2 := Lib.hid BM
    have HV : Hid (vfK p q g key a b = false) := by show _ = _; unfold vfK; rw [BM, Bool.and_false, Bool.and_false]
    clear h1 hla hlb MX BK BM
    go_enter Try.func24, Try.ntmps24
    have CC0 := B0.cells
    have CC1 := B1.cells
    go_wp2_with fail
    refine (mixBases_any p q g key A n c a _ (ha.ext E) HA.out hn).mono ?_
    rintro en w4 ⟨X, AX, mX, cX, hen, hyes, hno, hb9⟩
    rw [H1.out] at hen hyes hno; subst hen
    have HX := Lib.hid (hyes rfl).1
    have hO := (hyes rfl).2
    have BB := Blk.new w4 86 #[.int .i64 X, .slice AX mX cX]
    have hb8 := (Ext.refl w4).alloc (.cells #[.int .i64 X, .slice AX mX cX] 86)
    replace hO := hO.ext hb8
    replace E := E.trans hb9
    replace B0 := B0.ext hb9
    replace B1 := B1.ext hb9
    replace E := E.trans hb8
    replace B0 := B0.ext hb8
    replace B1 := B1.ext hb8
    clear hb9 hb8 hno hyes CC0 CC1
    have CC0 := B0.cells
    have CC1 := B1.cells
    go_wp2_with fail
    refine (areMixed_any p q g B m d b _ hGB (hb.ext E) HBL.out hm).mono ?_
    rintro en w9 ⟨hen, hb9⟩
    rw [H2.out] at hen; subst hen
    replace E := E.trans hb9
    clear hb9 CC0 CC1
    go_wp2
    go_ret2
    exact vf_no HV.out E
  have H2 := Lib.hid BM
  have hV : vfK p q g key a b = true := by unfold vfK; rw [hla, MX, BK, BM]; rfl
  have HV := Lib.hid hV
  have h8 := MX
  unfold mxB at h8
  rw [Bool.and_eq_true, Bool.and_eq_true] at h8
  have HG := Lib.hid h8.1
  have HK := Lib.hid h8.2.1
  have HAM := Lib.hid h8.2.2
  have HBM := Lib.hid BM
  have HBE := Lib.hid (bas_els (n := n) h8.1 BK)
  clear h8 hV
  clear h1 hla hlb MX BK BM
  go_enter Try.func24, Try.ntmps24
  have CC0 := B0.cells
  have CC1 := B1.cells
  go_wp2_with fail
  refine (mixBases_any p q g key A n c a _ (ha.ext E) HA.out hn).mono ?_
  rintro en w4 ⟨X, AX, mX, cX, hen, hyes, hno, hb9⟩
  rw [H1.out] at hen hyes hno; subst hen
  have HX := Lib.hid (hyes rfl).1
  have hO := (hyes rfl).2
  have BB := Blk.new w4 86 #[.int .i64 X, .slice AX mX cX]
  have hb8 := (Ext.refl w4).alloc (.cells #[.int .i64 X, .slice AX mX cX] 86)
  replace hO := hO.ext hb8
  replace E := E.trans hb9
  replace B0 := B0.ext hb9
  replace B1 := B1.ext hb9
  replace E := E.trans hb8
  replace B0 := B0.ext hb8
  replace B1 := B1.ext hb8
  clear hb9 hb8 hno hyes CC0 CC1
  have CC0 := B0.cells
  have CC1 := B1.cells
  go_wp2_with fail
  refine (areMixed_any p q g B m d b _ hGB (hb.ext E) HBL.out hm).mono ?_
  rintro en w9 ⟨hen, hb9⟩
  rw [H2.out] at hen; subst hen
  replace E := E.trans hb9
  replace B0 := B0.ext hb9
  replace B1 := B1.ext hb9
  replace hO := hO.ext hb9
  replace BB := BB.ext hb9
  clear hb9 CC0 CC1
  have hmX : n = mX := by rw [← hO.len, derL_length]
  subst hmX
  have CC0 := B0.cells
  have CC1 := B1.cells
  have CB := BB.cells
  go_wp2_with fail
  refine (iVerify_any p q g key X AX cX (derL p q g ⟨#[104, 115]⟩ n) A n c B m d a b C1 k1 e1 C2 k2 e2 C3 k3 e3 C4 k4 e4 C5 k5 e5 co cn cm ch rs _ HG.out HK.out (by rw [HX.out]; exact HBE.out.1) hO.rd (derL_length _ _ _ _ _) HBE.out.2 (ha.ext E) HA.out HAM.out (hb.ext E) HBL.out HBM.out (s1.ext E) (s2.ext E) (s3.ext E) (s4.ext E) (s5.ext E)).mono ?_
  rintro en w9 ⟨rfl, hb9⟩
  replace E := E.trans hb9
  go_wp2
  go_ret2
  exact vf_yes HV.out (by rw [vmV_eq, HX.out, HA.out]) E
set_option maxRecDepth 100000 in
set_option maxHeartbeats 8000000 in
theorem sVerifyMatrix_any (p q g key : Int) (A : Option Addr) (n c : Nat) (B : Option Addr) (m d : Nat) (a b : List (Int × Int)) (C1 : Option Addr) (k1 e1 : Nat) (C2 : Option Addr) (k2 e2 : Nat) (C3 : Option Addr) (k3 e3 : Nat) (C4 : Option Addr) (k4 e4 : Nat) (C5 : Option Addr) (k5 e5 : Nat) (co cn cm ch rs : List Int) (w : World) (ha : RdC w A a) (hla : a.length = n) (hn : n ≤ maxLen) (hb : RdC w B b) (hlb : b.length = m) (hm : m ≤ maxLen) (s1 : SlI w C1 k1 e1 co) (s2 : SlI w C2 k2 e2 cn) (s3 : SlI w C3 k3 e3 cm) (s4 : SlI w C4 k4 e4 ch) (s5 : SlI w C5 k5 e5 rs) :
    Calls Try.prog 21 #[.agg #[.int .i64 p, .int .i64 q, .int .i64 g], .int .i64 key, .slice A n c, .slice B m d, .agg #[.slice C1 k1 e1, .slice C2 k2 e2, .slice C3 k3 e3, .slice C4 k4 e4, .slice C5 k5 e5]] w fun en w' => en = .returned (.tuple #[.bool (vfB p q g key a b co cn cm ch rs), .bool (vfK p q g key a b)]) ∧ Ext w w' := by
  have HA := Lib.hid hla
  have HBL := Lib.hid hlb
  have E := (((Ext.refl w).alloc (.cells #[.int .i64 p, .int .i64 q, .int .i64 g] 31)).alloc (.cells #[.slice C1 k1 e1, .slice C2 k2 e2, .slice C3 k3 e3, .slice C4 k4 e4, .slice C5 k5 e5] 56))
  have B0 := ((Blk.new w 31 #[.int .i64 p, .int .i64 q, .int .i64 g]).alloc (.cells #[.slice C1 k1 e1, .slice C2 k2 e2, .slice C3 k3 e3, .slice C4 k4 e4, .slice C5 k5 e5] 56))
  have B1 := (Blk.new (w.alloc (.cells #[.int .i64 p, .int .i64 q, .int .i64 g] 31)) 56 #[.slice C1 k1 e1, .slice C2 k2 e2, .slice C3 k3 e3, .slice C4 k4 e4, .slice C5 k5 e5])
  simp only [World.size_alloc] at B1
  cases MX : mxB p q g key a
  case false =>
    have H1 := Lib.hid MX
    have HV : Hid (vfK p q g key a b = false) := by show _ = _; unfold vfK; rw [MX, Bool.false_and]
    clear MX hla hlb
    go_enter Try.func21, Try.ntmps21
    have CC0 := B0.cells
    have CC1 := B1.cells
    go_wp2_with fail
    refine (mList_any p q g key A n c a _ (ha.ext E) HA.out hn).mono ?_
    rintro en w9 ⟨hen, hb9⟩
    rw [H1.out] at hen; subst hen
    replace E := E.trans hb9
    replace B0 := B0.ext hb9
    replace B1 := B1.ext hb9
    clear hb9 CC0 CC1
    go_wp2
    go_ret2
    exact vf_no HV.out E
  have H1 := Lib.hid MX
  have h8 := MX
  unfold mxB at h8
  rw [Bool.and_eq_true, Bool.and_eq_true] at h8
  have h2e : mxB p q g key b = amB p q b := by unfold mxB; rw [h8.1, h8.2.1]; rfl
  cases BM : amB p q b
  case false =>
    have H2 : Hid (mxB p q g key b = false) := by show _ = _; rw [h2e, BM]
    have HV : Hid (vfK p q g key a b = false) := by show _ = _; unfold vfK; rw [BM, Bool.and_false, Bool.and_false]
    clear MX hla hlb BM h8 h2e
    go_enter Try.func21, Try.ntmps21
    have CC0 := B0.cells
    have CC1 := B1.cells
    go_wp2_with fail
    refine (mList_any p q g key A n c a _ (ha.ext E) HA.out hn).mono ?_
    rintro en w9 ⟨hen, hb9⟩
    rw [H1.out] at hen; subst hen
    replace E := E.trans hb9
    replace B0 := B0.ext hb9
    replace B1 := B1.ext hb9
    clear hb9 CC0 CC1
    have CC0 := B0.cells
    have CC1 := B1.cells
    go_wp2_with fail
    refine (mList_any p q g key B m d b _ (hb.ext E) HBL.out hm).mono ?_
    rintro en w9 ⟨hen, hb9⟩
    rw [H2.out] at hen; subst hen
    replace E := E.trans hb9
    replace B0 := B0.ext hb9
    replace B1 := B1.ext hb9
    clear hb9 CC0 CC1
    go_wp2
    go_ret2
    exact vf_no HV.out E
  have H2 : Hid (mxB p q g key b = true) := by show _ = _; rw [h2e, BM]
  have h9 := (amB_in h8.2.2).2.1
  rw [hla] at h9
  have hbe : (grpB p q g && (inR (n : Int) 0 24 && basK p q g (n : Int).toNat)) = basK p q g n := by
    rw [h8.1, inR_iff.2 ⟨by omega, by omega⟩, Int.toNat_natCast]; rfl
  clear h8 h2e
  cases BK : basK p q g n
  case false =>
    have H3 : Hid ((grpB p q g && (inR (n : Int) 0 24 && basK p q g (n : Int).toNat)) = false) := by show _ = _; rw [hbe, BK]
    have HV : Hid (vfK p q g key a b = false) := by show _ = _; unfold vfK; rw [hla, BK, Bool.false_and, Bool.and_false]
    clear MX hla hlb BM BK hbe
    go_enter Try.func21, Try.ntmps21
    have CC0 := B0.cells
    have CC1 := B1.cells
    go_wp2_with fail
    refine (mList_any p q g key A n c a _ (ha.ext E) HA.out hn).mono ?_
    rintro en w9 ⟨hen, hb9⟩
    rw [H1.out] at hen; subst hen
    replace E := E.trans hb9
    replace B0 := B0.ext hb9
    replace B1 := B1.ext hb9
    clear hb9 CC0 CC1
    have CC0 := B0.cells
    have CC1 := B1.cells
    go_wp2_with fail
    refine (mList_any p q g key B m d b _ (hb.ext E) HBL.out hm).mono ?_
    rintro en w9 ⟨hen, hb9⟩
    rw [H2.out] at hen; subst hen
    replace E := E.trans hb9
    replace B0 := B0.ext hb9
    replace B1 := B1.ext hb9
    clear hb9 CC0 CC1
    have CC0 := B0.cells
    have CC1 := B1.cells
    go_wp2_with fail
    refine (sBasesOf_any p q g n _).mono ?_
    rintro en w4 ⟨X, AX, mX, cX, hen, hyes, hno, hb9⟩
    rw [H3.out] at hen hyes hno; subst hen
    replace E := (E.trans hb9).alloc (.cells #[.int .i64 X, .slice AX mX cX] 86)
    clear hb9 hyes hno CC0 CC1
    go_wp2
    go_ret2
    exact vf_no HV.out E
  have H3 : Hid ((grpB p q g && (inR (n : Int) 0 24 && basK p q g (n : Int).toNat)) = true) := by show _ = _; rw [hbe, BK]
  have hV : vfK p q g key a b = true := by unfold vfK; rw [hla, MX, BK, BM]; rfl
  have HV := Lib.hid hV
  have h8 := MX
  unfold mxB at h8
  rw [Bool.and_eq_true, Bool.and_eq_true] at h8
  have HG := Lib.hid h8.1
  have HK := Lib.hid h8.2.1
  have HAM := Lib.hid h8.2.2
  have HBM := Lib.hid BM
  have HBE := Lib.hid (bas_els (n := n) h8.1 BK)
  clear h8 hV
  clear MX hla hlb BM BK hbe
  go_enter Try.func21, Try.ntmps21
  have CC0 := B0.cells
  have CC1 := B1.cells
  go_wp2_with fail
  refine (mList_any p q g key A n c a _ (ha.ext E) HA.out hn).mono ?_
  rintro en w9 ⟨hen, hb9⟩
  rw [H1.out] at hen; subst hen
  replace E := E.trans hb9
  replace B0 := B0.ext hb9
  replace B1 := B1.ext hb9
  clear hb9 CC0 CC1
  have CC0 := B0.cells
  have CC1 := B1.cells
  go_wp2_with fail
  refine (mList_any p q g key B m d b _ (hb.ext E) HBL.out hm).mono ?_
  rintro en w9 ⟨hen, hb9⟩
  rw [H2.out] at hen; subst hen
  replace E := E.trans hb9
  replace B0 := B0.ext hb9
  replace B1 := B1.ext hb9
  clear hb9 CC0 CC1
  have CC0 := B0.cells
  have CC1 := B1.cells
  go_wp2_with fail
  refine (sBasesOf_any p q g n _).mono ?_
  rintro en w4 ⟨X, AX, mX, cX, hen, hyes, hno, hb9⟩
  rw [H3.out] at hen hyes hno; subst hen
  have HX := Lib.hid (hyes rfl).1
  have hO := (hyes rfl).2
  have BB := Blk.new w4 86 #[.int .i64 X, .slice AX mX cX]
  have hb8 := (Ext.refl w4).alloc (.cells #[.int .i64 X, .slice AX mX cX] 86)
  replace hO := hO.ext hb8
  replace E := E.trans hb9
  replace B0 := B0.ext hb9
  replace B1 := B1.ext hb9
  replace E := E.trans hb8
  replace B0 := B0.ext hb8
  replace B1 := B1.ext hb8
  clear hb9 hb8 hno hyes CC0 CC1
  rw [Int.toNat_natCast] at hO
  have hmX : n = mX := by rw [← hO.len, derL_length]
  subst hmX
  have CC0 := B0.cells
  have CC1 := B1.cells
  have CB := BB.cells
  go_wp2_with fail
  refine (sVerify_any p q g key X AX cX (derL p q g ⟨#[104, 115]⟩ n) A n c B m d a b C1 k1 e1 C2 k2 e2 C3 k3 e3 C4 k4 e4 C5 k5 e5 co cn cm ch rs _ HG.out HK.out (by rw [HX.out]; exact HBE.out.1) hO.rd (derL_length _ _ _ _ _) HBE.out.2 (ha.ext E) HA.out HAM.out (hb.ext E) HBL.out HBM.out (s1.ext E) (s2.ext E) (s3.ext E) (s4.ext E) (s5.ext E)).mono ?_
  rintro en w9 ⟨rfl, hb9⟩
  replace E := E.trans hb9
  go_wp2
  go_ret2
  exact vf_yes HV.out (by rw [vmV_eq, HX.out, HA.out]) E
end Go.Proofs.Ytnhdohjlbchniaa
