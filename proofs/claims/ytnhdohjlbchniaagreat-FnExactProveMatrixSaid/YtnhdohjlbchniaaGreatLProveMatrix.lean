/- The law FnExactProveMatrix returns true for every input. It holds without a condition. (Printed by tools/gen_lpvx.py.) -/
import Derived.Test.YtnhdohjlbchniaaGreatRows
import Derived.Test.YtnhdohjlbchniaaGreatPv3
import Derived.Test.YtnhdohjlbchniaaGreatSlK
import Derived.Test.YtnhdohjlbchniaaGreatFacts
namespace Go.Proofs.YtnhdohjlbchniaaGreat
set_option linter.unusedVariables false
set_option linter.unusedSimpArgs false
section
open Go.RowKit
/-- A permutation of n places and n coins. -/
def mixN (q : Int) (perm ss : List Int) (n : Nat) : Bool := permB perm && (decide (perm.length = n) && (decide (ss.length = n) && allR ss 0 (q - 1)))
set_option maxHeartbeats 1000000 in
theorem isMixingN_any (p q g : Int) (A D : Option Addr) (k c m d n : Nat) (perm ss : List Int) (w : World) (hG : GrpB p q) (ha : RdI w A perm) (hl : perm.length = k) (hc : k ≤ c ∧ c ≤ maxLen) (hb : RdI w D ss) (hm : ss.length = m) (hm2 : m ≤ 1048576) :
    Calls Tryz.prog 24 #[.agg #[.int .i64 p, .int .i64 q, .int .i64 g], .slice A k c, .slice D m d, .int .i64 n] w fun e w' => e = .returned (.bool (mixN q perm ss n)) ∧ Ext w w' := by
  have E := (Ext.refl w).alloc (.cells #[.int .i64 p, .int .i64 q, .int .i64 g] 33)
  have B := Blk.new w 33 #[.int .i64 p, .int .i64 q, .int .i64 g]
  have hmx : mixN q perm ss n = (permB perm && (decide (k = n) && (decide (m = n) && allR ss 0 (q - 1)))) := by unfold mixN; rw [hl, hm]
  rw [hmx]
  cases h1 : permB perm
  · have H1 := Lib.hid h1
    clear h1 hmx
    go_enter Tryz.func24, Tryz.ntmps24
    go_wp2_with fail
    refine (iIsPermutation_b _ _ _ perm _ (ha.ext E) hl hc.1 hc.2).mono ?_
    rintro e w1 ⟨he, hb1⟩
    rw [H1.out] at he; subst he
    go_wp2
    go_ret
    exact ⟨rfl, E.trans hb1⟩
  have H1 := Lib.hid h1
  by_cases h3 : k = n
  case neg =>
    have hz3 : ((k : Int) == (n : Int)) = false := by simp; omega
    rw [decide_eq_false h3]
    clear h1 hmx h3
    go_enter Tryz.func24, Tryz.ntmps24
    go_wp2_with fail
    refine (iIsPermutation_b _ _ _ perm _ (ha.ext E) hl hc.1 hc.2).mono ?_
    rintro e w1 ⟨he, hb1⟩
    rw [H1.out] at he; subst he
    go_wp2
    go_ret
    exact ⟨rfl, E.trans hb1⟩
  have hz3 : ((k : Int) == (n : Int)) = true := by simp; omega
  rw [decide_eq_true h3]
  by_cases h2 : m = n
  case neg =>
    have hz : ((m : Int) == (n : Int)) = false := by simp; omega
    rw [decide_eq_false h2]
    clear h1 hmx h2 h3
    go_enter Tryz.func24, Tryz.ntmps24
    go_wp2_with fail
    refine (iIsPermutation_b _ _ _ perm _ (ha.ext E) hl hc.1 hc.2).mono ?_
    rintro e w1 ⟨he, hb1⟩
    rw [H1.out] at he; subst he
    go_wp2
    go_ret
    exact ⟨rfl, E.trans hb1⟩
  have hz : ((m : Int) == (n : Int)) = true := by simp; omega
  rw [decide_eq_true h2, Bool.true_and, Bool.true_and, Bool.true_and]
  clear h1 hmx h2 h3
  go_enter Tryz.func24, Tryz.ntmps24
  go_wp2_with fail
  refine (iIsPermutation_b _ _ _ perm _ (ha.ext E) hl hc.1 hc.2).mono ?_
  rintro e w1 ⟨he, hb1⟩
  rw [H1.out] at he; subst he
  have C := (B.ext hb1).cells
  go_wp2_with fail
  refine (areExps_any p q g _ _ _ ss _ hG (hb.ext (E.trans hb1)) hm (by unfold maxLen; omega)).mono ?_
  rintro e w2 ⟨rfl, hb2⟩
  go_wp2
  go_ret
  exact ⟨rfl, (E.trans hb1).trans hb2⟩
set_option maxHeartbeats 1000000 in
theorem mPermN_any (A : Option Addr) (k c n : Nat) (l : List Int) (w : World) (ha : RdI w A l) (hl : l.length = k) (hc : k ≤ c ∧ c ≤ maxLen) (h12 : n ≤ 24) :
    Calls Tryz.prog 18 #[.slice A k c, .int .i64 n] w fun e w' => e = .returned (.bool (permB l && decide (l.length = n))) ∧ w = w' := by
  by_cases h : k = n
  · subst h
    rw [hl, decide_eq_true rfl, Bool.and_true]
    exact mPerm_any A k c l w ha hl hc h12
  · have hz : ((k : Int) == (n : Int)) = false := by simp; omega
    rw [hl, decide_eq_false h, Bool.and_false]
    go_enter Tryz.func18, Tryz.ntmps18
    go_wp2
    go_ret
    exact ⟨rfl, rfl⟩
/-- When ProveMatrix answers; what. -/
noncomputable def pfK (p q g key : Int) (a : List (Int × Int)) (perm rs cs : List Int) : Bool :=
  (mxB p q g key a && basK p q g a.length) && (mixN q perm rs a.length && (decide (cs.length = 4 * a.length + 4) && allR cs 0 (q - 1)))
def PvIs (p q g key : Int) (a : List (Int × Int)) (perm rs cs : List Int) (co cn cm ch rp : List Int) : Prop :=
  if pfK p q g key a perm rs cs = true then ∃ z, ch = [z] ∧ PvEq p q g key (derV p q g ⟨#[104]⟩ 0) (derL p q g ⟨#[104, 115]⟩ a.length) a perm rs cs a.length co cn cm z rp
  else co = [] ∧ cn = [] ∧ cm = [] ∧ ch = [] ∧ rp = []
theorem PvIs.one {p q g key : Int} {a : List (Int × Int)} {perm rs cs co cn cm ch rp co' cn' cm' ch' rp' : List Int} (h : PvIs p q g key a perm rs cs co cn cm ch rp) (h' : PvIs p q g key a perm rs cs co' cn' cm' ch' rp') : co = co' ∧ cn = cn' ∧ cm = cm' ∧ ch = ch' ∧ rp = rp' := by
  unfold PvIs at h h'
  split at h
  · rename_i hk
    rw [if_pos hk] at h'
    obtain ⟨z, rfl, e⟩ := h
    obtain ⟨z', rfl, e'⟩ := h'
    obtain ⟨h1, h2, h3, h4, h5⟩ := e.one e'
    exact ⟨h1, h2, h3, by rw [h4], h5⟩
  · rename_i hk
    rw [if_neg hk] at h'
    obtain ⟨rfl, rfl, rfl, rfl, rfl⟩ := h
    obtain ⟨rfl, rfl, rfl, rfl, rfl⟩ := h'
    exact ⟨rfl, rfl, rfl, rfl, rfl⟩
def PmPost (p q g key : Int) (a : List (Int × Int)) (perm rs cs : List Int) (w : World) (en : Ending) (w' : World) : Prop :=
  ∃ (C1 : Option Addr) (n1 e1 : Nat) (C2 : Option Addr) (n2 e2 : Nat) (C3 : Option Addr) (n3 e3 : Nat) (C4 : Option Addr) (n4 e4 : Nat) (C5 : Option Addr) (n5 e5 : Nat) (co cn cm ch rp : List Int),
    en = .returned (.tuple #[.agg #[.slice C1 n1 e1, .slice C2 n2 e2, .slice C3 n3 e3, .slice C4 n4 e4, .slice C5 n5 e5], .bool (pfK p q g key a perm rs cs)]) ∧ PvIs p q g key a perm rs cs co cn cm ch rp ∧
    OwnL w' w.heap.size [(C1, n1, e1), (C2, n2, e2), (C3, n3, e3), (C4, n4, e4), (C5, n5, e5)] [co, cn, cm, ch, rp] ∧ (n1 ≤ 100 ∧ n2 ≤ 100 ∧ n3 ≤ 100 ∧ n4 ≤ 100 ∧ n5 ≤ 100) ∧ Ext w w'
theorem own_nil5 (w : World) (base : Nat) : OwnL w base [(none, 0, 0), (none, 0, 0), (none, 0, 0), (none, 0, 0), (none, 0, 0)] [[], [], [], [], []] := by
  have h := OwnI.nil w base 3
  have hap : ∀ rs, Apart (fpI none) (rowsFp rs) := fun rs b hb => by simp [fpI] at hb
  exact OwnL.cons h (OwnL.cons h (OwnL.cons h (OwnL.cons h (OwnL.one h) (hap _)) (hap _)) (hap _)) (hap _)
theorem pm_no {p q g key : Int} {a : List (Int × Int)} {perm rs cs : List Int} (h : pfK p q g key a perm rs cs = false) {w w' : World} (hE : Ext w w') :
    PmPost p q g key a perm rs cs w (.returned (.tuple #[.agg #[.slice none 0 0, .slice none 0 0, .slice none 0 0, .slice none 0 0, .slice none 0 0], .bool false])) w' := by
  refine ⟨none, 0, 0, none, 0, 0, none, 0, 0, none, 0, 0, none, 0, 0, [], [], [], [], [], by rw [h], ?_, own_nil5 _ _, by omega, hE⟩
  unfold PvIs
  rw [h]
  exact ⟨rfl, rfl, rfl, rfl, rfl⟩
theorem pm_yes {p q g key H : Int} {hs : List Int} {a : List (Int × Int)} {perm rs cs : List Int} {n : Nat} (hn : a.length = n) (hk : pfK p q g key a perm rs cs = true) (hH : H = derV p q g ⟨#[104]⟩ 0) (hhs : hs = derL p q g ⟨#[104, 115]⟩ n) (h12 : n ≤ 12)
    {C1 C2 C3 C4 C5 : Option Addr} {e1 e2 e3 e4 e5 : Nat} {co cn cm rp : List Int} {z : Int} (hP : PvEq p q g key H hs a perm rs cs n co cn cm z rp) {w w' : World}
    (hL : OwnL w' w.heap.size [(C1, n, e1), (C2, n, e2), (C3, 5 + n, e3), (C4, 1, e4), (C5, 4 + n + n, e5)] [co, cn, cm, [z], rp]) (hE : Ext w w') :
    PmPost p q g key a perm rs cs w (.returned (.tuple #[.agg #[.slice C1 n e1, .slice C2 n e2, .slice C3 (5 + n) e3, .slice C4 1 e4, .slice C5 (4 + n + n) e5], .bool true])) w' := by
  refine ⟨C1, n, e1, C2, n, e2, C3, 5 + n, e3, C4, 1, e4, C5, 4 + n + n, e5, co, cn, cm, [z], rp, by rw [hk], ?_, hL, by omega, hE⟩
  unfold PvIs
  rw [if_pos hk]
  subst hn hH hhs
  exact ⟨z, rfl, hP⟩
theorem bas_els {p q g : Int} {n : Nat} (h : grpB p q g = true) (hk : basK p q g n = true) : elB p q (derV p q g ⟨#[104]⟩ 0) = true ∧ (derL p q g ⟨#[104, 115]⟩ n).all (elB p q) = true := by
  unfold basK at hk
  rw [Bool.and_eq_true, bne_iff_ne] at hk
  refine ⟨(derV_out h _ _ hk.1).1, List.all_eq_true.2 fun x hx => ?_⟩
  unfold derL at hx
  obtain ⟨k, h1, rfl⟩ := List.mem_map.1 hx
  exact (derV_out h _ _ (derA_mem hk.2 (List.mem_range.1 h1))).1
set_option maxRecDepth 100000 in
set_option maxHeartbeats 8000000 in
theorem iProveMatrix_any (p q g key : Int) (A : Option Addr) (n c : Nat) (a : List (Int × Int)) (P : Option Addr) (k d : Nat) (perm : List Int) (R : Option Addr) (m e : Nat) (rs : List Int) (Kc : Option Addr) (m0 f0 : Nat) (cs : List Int) (w : World) (ha : RdC w A a) (hla : a.length = n) (hn : n ≤ maxLen) (hp : SlI w P k d perm) (hr : SlI w R m e rs) (hr2 : m ≤ 1048576) (hc : SlI w Kc m0 f0 cs) (hc2 : m0 ≤ 1048576) :
    Calls Tryz.prog 9 #[.agg #[.int .i64 p, .int .i64 q, .int .i64 g], .int .i64 key, .slice A n c, .slice P k d, .slice R m e, .slice Kc m0 f0] w fun en w' => PmPost p q g key a perm rs cs w en w' := by
  have HA := Lib.hid hla
  have hKe : pfK p q g key a perm rs cs = ((mxB p q g key a && basK p q g n) && (mixN q perm rs n && (decide (m0 = 4 * n + 4) && allR cs 0 (q - 1)))) := by unfold pfK; rw [hla, hc.len]
  have HKE := Lib.hid hKe
  clear hKe hla
  have E := (((Ext.refl w).alloc (.cells #[.int .i64 p, .int .i64 q, .int .i64 g] 33)).alloc (.cells #[.slice none 0 0, .slice none 0 0, .slice none 0 0, .slice none 0 0, .slice none 0 0] 30))
  have B0 := ((Blk.new w 33 #[.int .i64 p, .int .i64 q, .int .i64 g]).alloc (.cells #[.slice none 0 0, .slice none 0 0, .slice none 0 0, .slice none 0 0, .slice none 0 0] 30))
  have B1 := (Blk.new (w.alloc (.cells #[.int .i64 p, .int .i64 q, .int .i64 g] 33)) 30 #[.slice none 0 0, .slice none 0 0, .slice none 0 0, .slice none 0 0, .slice none 0 0])
  simp only [World.size_alloc] at B1
  cases h1 : (mxB p q g key a && basK p q g n)
  case false =>
    have H1 := Lib.hid h1
    have HV : Hid (pfK p q g key a perm rs cs = false) := by show _ = _; rw [HKE.out, h1, Bool.false_and]
    clear h1
    go_enter Tryz.func9, Tryz.ntmps9
    have CC0 := B0.cells
    have CC1 := B1.cells
    go_wp2_with fail
    refine (mixBases_any p q g key A n c a _ (ha.ext E) HA.out hn).mono ?_
    rintro en w4 ⟨X, AX, mX, cX, hen, hyes, hno, hb9⟩
    rw [H1.out] at hen hyes hno; subst hen
    have hb8 := (Ext.refl w4).alloc (.cells #[.int .i64 X, .slice AX mX cX] 49)
    replace E := E.trans (hb9.trans hb8)
    replace B0 := B0.ext (hb9.trans hb8)
    replace B1 := B1.ext (hb9.trans hb8)
    clear hb8 hb9 hyes hno CC0 CC1
    have FZ := B1.frozen
    have CN := B1.cells
    have CZ := (((((B1.set_ 0 (.slice none 0 0)).set_ 1 (.slice none 0 0)).set_ 2 (.slice none 0 0)).set_ 3 (.slice none 0 0)).set_ 4 (.slice none 0 0)).cells
    go_wp2
    refine bodyPost_ret (v := .tuple #[.agg #[.slice none 0 0, .slice none 0 0, .slice none 0 0, .slice none 0 0, .slice none 0 0], .bool false]) (by simp [results, Tryz.results9, CZ, go_sem]) rfl (pm_no HV.out (E.only1 (by first | omega | (simp; done) | (simp; omega)) (only_five _ _ _ _ _ _ _)))
  have H1 := Lib.hid h1
  have h2 := h1
  rw [Bool.and_eq_true] at h2
  obtain ⟨MX, BK⟩ := h2
  have h8 := MX
  unfold mxB at h8
  rw [Bool.and_eq_true, Bool.and_eq_true] at h8
  have HG := Lib.hid h8.1
  have HK := Lib.hid h8.2.1
  have HAM := Lib.hid h8.2.2
  have hB : GrpB p q := (grpB_in h8.1).bd
  have HBE := Lib.hid (bas_els (n := n) h8.1 BK)
  have an12 : n ≤ 12 := by have h9 := (amB_in h8.2.2).2.1; rw [HA.out] at h9; exact h9
  clear h1 MX BK h8
  cases h2 : mixN q perm rs n
  case false =>
    have H2 := Lib.hid h2
    have HV : Hid (pfK p q g key a perm rs cs = false) := by show _ = _; rw [HKE.out, h2, Bool.false_and, Bool.and_false]
    clear h2
    go_enter Tryz.func9, Tryz.ntmps9
    have CC0 := B0.cells
    have CC1 := B1.cells
    go_wp2_with fail
    refine (mixBases_any p q g key A n c a _ (ha.ext E) HA.out hn).mono ?_
    rintro en w4 ⟨X, AX, mX, cX, hen, hyes, hno, hb9⟩
    rw [H1.out] at hen hyes hno; subst hen
    have hb8 := (Ext.refl w4).alloc (.cells #[.int .i64 X, .slice AX mX cX] 49)
    replace E := E.trans (hb9.trans hb8)
    replace B0 := B0.ext (hb9.trans hb8)
    replace B1 := B1.ext (hb9.trans hb8)
    clear hb8 hb9 hyes hno CC0 CC1
    have CC0 := B0.cells
    have CC1 := B1.cells
    go_wp2_with fail
    refine (isMixingN_any p q g P R k d m e n perm rs _ hB (hp.rd.ext E) hp.len ⟨hp.cap, hp.max⟩ (hr.rd.ext E) hr.len hr2).mono ?_
    rintro en w9 ⟨hen, hb9⟩
    rw [H2.out] at hen; subst hen
    replace E := E.trans hb9
    replace B0 := B0.ext hb9
    replace B1 := B1.ext hb9
    clear hb9
    clear CC0 CC1
    have FZ := B1.frozen
    have CN := B1.cells
    have CZ := (((((B1.set_ 0 (.slice none 0 0)).set_ 1 (.slice none 0 0)).set_ 2 (.slice none 0 0)).set_ 3 (.slice none 0 0)).set_ 4 (.slice none 0 0)).cells
    go_wp2
    refine bodyPost_ret (v := .tuple #[.agg #[.slice none 0 0, .slice none 0 0, .slice none 0 0, .slice none 0 0, .slice none 0 0], .bool false]) (by simp [results, Tryz.results9, CZ, go_sem]) rfl (pm_no HV.out (E.only1 (by first | omega | (simp; done) | (simp; omega)) (only_five _ _ _ _ _ _ _)))
  have H2 := Lib.hid h2
  have v1 : IntKind.i64.wrap (4 * (n : Int)) = 4 * (n : Int) := by rw [IntKind.wrap_i64]; omega
  have v2 : IntKind.i64.wrap (4 * (n : Int) + 4) = 4 * (n : Int) + 4 := by rw [IntKind.wrap_i64]; omega
  by_cases h3 : m0 = 4 * n + 4
  case neg =>
    have hne : ((m0 : Int) != 4 * (n : Int) + 4) = true := by simp; omega
    have HV : Hid (pfK p q g key a perm rs cs = false) := by show _ = _; rw [HKE.out, decide_eq_false h3, Bool.false_and, Bool.and_false, Bool.and_false]
    clear h2 h3
    go_enter Tryz.func9, Tryz.ntmps9
    have CC0 := B0.cells
    have CC1 := B1.cells
    go_wp2_with fail
    refine (mixBases_any p q g key A n c a _ (ha.ext E) HA.out hn).mono ?_
    rintro en w4 ⟨X, AX, mX, cX, hen, hyes, hno, hb9⟩
    rw [H1.out] at hen hyes hno; subst hen
    have hb8 := (Ext.refl w4).alloc (.cells #[.int .i64 X, .slice AX mX cX] 49)
    replace E := E.trans (hb9.trans hb8)
    replace B0 := B0.ext (hb9.trans hb8)
    replace B1 := B1.ext (hb9.trans hb8)
    clear hb8 hb9 hyes hno CC0 CC1
    have CC0 := B0.cells
    have CC1 := B1.cells
    go_wp2_with fail
    refine (isMixingN_any p q g P R k d m e n perm rs _ hB (hp.rd.ext E) hp.len ⟨hp.cap, hp.max⟩ (hr.rd.ext E) hr.len hr2).mono ?_
    rintro en w9 ⟨hen, hb9⟩
    rw [H2.out] at hen; subst hen
    replace E := E.trans hb9
    replace B0 := B0.ext hb9
    replace B1 := B1.ext hb9
    clear hb9
    clear CC0 CC1
    have FZ := B1.frozen
    have CN := B1.cells
    have CZ := (((((B1.set_ 0 (.slice none 0 0)).set_ 1 (.slice none 0 0)).set_ 2 (.slice none 0 0)).set_ 3 (.slice none 0 0)).set_ 4 (.slice none 0 0)).cells
    go_wp2
    refine bodyPost_ret (v := .tuple #[.agg #[.slice none 0 0, .slice none 0 0, .slice none 0 0, .slice none 0 0, .slice none 0 0], .bool false]) (by simp [results, Tryz.results9, CZ, go_sem]) rfl (pm_no HV.out (E.only1 (by first | omega | (simp; done) | (simp; omega)) (only_five _ _ _ _ _ _ _)))
  have hne : ((m0 : Int) != 4 * (n : Int) + 4) = false := by simp; omega
  have HM0 := Lib.hid h3
  cases h4 : allR cs 0 (q - 1)
  case false =>
    have H4 := Lib.hid h4
    have HV : Hid (pfK p q g key a perm rs cs = false) := by show _ = _; rw [HKE.out, h4, Bool.and_false, Bool.and_false, Bool.and_false]
    clear h2 h3 h4
    go_enter Tryz.func9, Tryz.ntmps9
    have CC0 := B0.cells
    have CC1 := B1.cells
    go_wp2_with fail
    refine (mixBases_any p q g key A n c a _ (ha.ext E) HA.out hn).mono ?_
    rintro en w4 ⟨X, AX, mX, cX, hen, hyes, hno, hb9⟩
    rw [H1.out] at hen hyes hno; subst hen
    have hb8 := (Ext.refl w4).alloc (.cells #[.int .i64 X, .slice AX mX cX] 49)
    replace E := E.trans (hb9.trans hb8)
    replace B0 := B0.ext (hb9.trans hb8)
    replace B1 := B1.ext (hb9.trans hb8)
    clear hb8 hb9 hyes hno CC0 CC1
    have CC0 := B0.cells
    have CC1 := B1.cells
    go_wp2_with fail
    refine (isMixingN_any p q g P R k d m e n perm rs _ hB (hp.rd.ext E) hp.len ⟨hp.cap, hp.max⟩ (hr.rd.ext E) hr.len hr2).mono ?_
    rintro en w9 ⟨hen, hb9⟩
    rw [H2.out] at hen; subst hen
    replace E := E.trans hb9
    replace B0 := B0.ext hb9
    replace B1 := B1.ext hb9
    clear hb9
    clear CC0 CC1
    have CC0 := B0.cells
    have CC1 := B1.cells
    go_wp2_with fail
    refine (areExps_any p q g Kc m0 f0 cs _ hB (hc.rd.ext E) hc.len (by unfold maxLen; omega)).mono ?_
    rintro en w9 ⟨hen, hb9⟩
    rw [H4.out] at hen; subst hen
    replace E := E.trans hb9
    replace B0 := B0.ext hb9
    replace B1 := B1.ext hb9
    clear hb9
    clear CC0 CC1
    have FZ := B1.frozen
    have CN := B1.cells
    have CZ := (((((B1.set_ 0 (.slice none 0 0)).set_ 1 (.slice none 0 0)).set_ 2 (.slice none 0 0)).set_ 3 (.slice none 0 0)).set_ 4 (.slice none 0 0)).cells
    go_wp2
    refine bodyPost_ret (v := .tuple #[.agg #[.slice none 0 0, .slice none 0 0, .slice none 0 0, .slice none 0 0, .slice none 0 0], .bool false]) (by simp [results, Tryz.results9, CZ, go_sem]) rfl (pm_no HV.out (E.only1 (by first | omega | (simp; done) | (simp; omega)) (only_five _ _ _ _ _ _ _)))
  have H4 := Lib.hid h4
  have hV : pfK p q g key a perm rs cs = true := by rw [HKE.out, H1.out, h2, decide_eq_true h3, h4]; rfl
  have HV := Lib.hid hV
  unfold mixN at h2
  simp only [Bool.and_eq_true, decide_eq_true_eq] at h2
  obtain ⟨hq1, hq2, hq3, hq4⟩ := h2
  have hkn : n = k := hq2.symm.trans hp.len
  have hmn : n = m := hq3.symm.trans hr.len
  subst hkn
  have HPL := Lib.hid hq2
  have HRL := Lib.hid hq3
  have HPR : Hid (allR perm 0 (n - 1) = true) := by
    show _ = _
    unfold permB at hq1
    simp only [Bool.and_eq_true] at hq1
    have h9 := hq1.2.1
    rw [hq2] at h9
    exact h9
  have HRB := Lib.hid (allR_iff.1 hq4)
  have HCB := Lib.hid (allR_iff.1 h4)
  subst hmn
  obtain ⟨b0, hb0, hb0c⟩ := hc.rd.at_ (k := 0) (by rw [hc.len]; omega)
  subst hb0
  clear hb0c hV hq1 hq2 hq3 hq4 h3 h4
  go_enter Tryz.func9, Tryz.ntmps9
  have CC0 := B0.cells
  have CC1 := B1.cells
  go_wp2_with fail
  refine (mixBases_any p q g key A n c a _ (ha.ext E) HA.out hn).mono ?_
  rintro en w4 ⟨X, AX, mX, cX, hen, hyes, hno, hb9⟩
  rw [H1.out] at hen hyes hno; subst hen
  have HX := Lib.hid (hyes rfl).1
  have hO := (hyes rfl).2
  have BB := Blk.new w4 49 #[.int .i64 X, .slice AX mX cX]
  have hb8 := (Ext.refl w4).alloc (.cells #[.int .i64 X, .slice AX mX cX] 49)
  replace hO := hO.ext hb8
  replace E := E.trans (hb9.trans hb8)
  replace B0 := B0.ext (hb9.trans hb8)
  replace B1 := B1.ext (hb9.trans hb8)
  clear hb8 hb9 hyes hno CC0 CC1
  have CC0 := B0.cells
  have CC1 := B1.cells
  go_wp2_with fail
  refine (isMixingN_any p q g P R n d n e n perm rs _ hB (hp.rd.ext E) hp.len ⟨hp.cap, hp.max⟩ (hr.rd.ext E) hr.len hr2).mono ?_
  rintro en w9 ⟨hen, hb9⟩
  rw [H2.out] at hen; subst hen
  replace E := E.trans hb9
  replace B0 := B0.ext hb9
  replace B1 := B1.ext hb9
  replace hO := hO.ext hb9
  replace BB := BB.ext hb9
  clear hb9
  clear CC0 CC1
  have CC0 := B0.cells
  have CC1 := B1.cells
  go_wp2_with fail
  refine (areExps_any p q g (some b0) m0 f0 cs _ hB (hc.rd.ext E) hc.len (by unfold maxLen; omega)).mono ?_
  rintro en w9 ⟨hen, hb9⟩
  rw [H4.out] at hen; subst hen
  replace E := E.trans hb9
  replace B0 := B0.ext hb9
  replace B1 := B1.ext hb9
  replace hO := hO.ext hb9
  replace BB := BB.ext hb9
  clear hb9
  clear CC0 CC1
  have hmX : n = mX := by rw [← hO.len, derL_length]
  subst hmX
  have CC0 := B0.cells
  have CC1 := B1.cells
  have CB := BB.cells
  go_wp2_with fail
  refine (iProve_any p q g key X AX cX (derL p q g ⟨#[104, 115]⟩ n) A n c a P d perm R e rs b0 m0 f0 cs _ HG.out HK.out (by rw [HX.out]; exact HBE.out.1) hO.rd (derL_length _ _ _ _ _) HBE.out.2 (ha.ext E) HA.out HAM.out (hp.rd.ext E) HPL.out HPR.out (hr.rd.ext E) HRL.out HRB.out (hc.ext E) HM0.out HCB.out).mono ?_
  rintro en w9 ⟨D1, g1, D2, g2, D3, g3, D4, g4, D5, g5, co, cn, cm, z, rp, rfl, hPE, hL, hb9⟩
  have hwz := E.size
  replace E := E.trans hb9
  replace B1 := B1.ext hb9
  clear CC0 CC1 CB hb9
  have FZ := B1.frozen
  have CN := B1.cells
  have CZ := (((((B1.set_ 0 (.slice D1 n g1)).set_ 1 (.slice D2 n g2)).set_ 2 (.slice D3 (5 + n) g3)).set_ 3 (.slice D4 1 g4)).set_ 4 (.slice D5 (4 + n + n) g5)).cells
  go_wp2
  refine bodyPost_ret (v := .tuple #[.agg #[.slice D1 n g1, .slice D2 n g2, .slice D3 (5 + n) g3, .slice D4 1 g4, .slice D5 (4 + n + n) g5], .bool true]) (by simp [results, Tryz.results9, CZ, go_sem]) rfl (pm_yes HA.out HV.out HX.out rfl an12 hPE ((hL.keepBlk5 B1 (by decide) (only_five _ _ _ _ _ _ _)).more hwz) (E.only1 (by first | omega | (simp; done) | (simp; omega)) (only_five _ _ _ _ _ _ _)))
set_option maxRecDepth 100000 in
set_option maxHeartbeats 8000000 in
theorem sProveMatrix_any (p q g key : Int) (A : Option Addr) (n c : Nat) (a : List (Int × Int)) (P : Option Addr) (k d : Nat) (perm : List Int) (R : Option Addr) (m e : Nat) (rs : List Int) (Kc : Option Addr) (m0 f0 : Nat) (cs : List Int) (w : World) (ha : RdC w A a) (hla : a.length = n) (hn : n ≤ maxLen) (hp : SlI w P k d perm) (hr : SlI w R m e rs) (hr2 : m ≤ 1048576) (hc : SlI w Kc m0 f0 cs) (hc2 : m0 ≤ 1048576) :
    Calls Tryz.prog 5 #[.agg #[.int .i64 p, .int .i64 q, .int .i64 g], .int .i64 key, .slice A n c, .slice P k d, .slice R m e, .slice Kc m0 f0] w fun en w' => PmPost p q g key a perm rs cs w en w' := by
  have HA := Lib.hid hla
  have hKe : pfK p q g key a perm rs cs = ((mxB p q g key a && basK p q g n) && (mixN q perm rs n && (decide (m0 = 4 * n + 4) && allR cs 0 (q - 1)))) := by unfold pfK; rw [hla, hc.len]
  have HKE := Lib.hid hKe
  have hMe : mixN q perm rs n = ((permB perm && decide (perm.length = n)) && (decide (m = n) && allR rs 0 (q - 1))) := by unfold mixN; rw [hr.len, Bool.and_assoc]
  have HME := Lib.hid hMe
  clear hKe hMe hla
  have E := (((Ext.refl w).alloc (.cells #[.int .i64 p, .int .i64 q, .int .i64 g] 33)).alloc (.cells #[.slice none 0 0, .slice none 0 0, .slice none 0 0, .slice none 0 0, .slice none 0 0] 30))
  have B0 := ((Blk.new w 33 #[.int .i64 p, .int .i64 q, .int .i64 g]).alloc (.cells #[.slice none 0 0, .slice none 0 0, .slice none 0 0, .slice none 0 0, .slice none 0 0] 30))
  have B1 := (Blk.new (w.alloc (.cells #[.int .i64 p, .int .i64 q, .int .i64 g] 33)) 30 #[.slice none 0 0, .slice none 0 0, .slice none 0 0, .slice none 0 0, .slice none 0 0])
  simp only [World.size_alloc] at B1
  cases MX : mxB p q g key a
  case false =>
    have H0 := Lib.hid MX
    have HV : Hid (pfK p q g key a perm rs cs = false) := by show _ = _; rw [HKE.out, MX, Bool.false_and, Bool.false_and]
    clear MX
    go_enter Tryz.func5, Tryz.ntmps5
    have CC0 := B0.cells
    have CC1 := B1.cells
    go_wp2_with fail
    refine (mList_any p q g key A n c a _ (ha.ext E) HA.out hn).mono ?_
    rintro en w9 ⟨hen, hb9⟩
    rw [H0.out] at hen; subst hen
    replace E := E.trans hb9
    replace B0 := B0.ext hb9
    replace B1 := B1.ext hb9
    clear hb9
    clear CC0 CC1
    have FZ := B1.frozen
    have CN := B1.cells
    have CZ := (((((B1.set_ 0 (.slice none 0 0)).set_ 1 (.slice none 0 0)).set_ 2 (.slice none 0 0)).set_ 3 (.slice none 0 0)).set_ 4 (.slice none 0 0)).cells
    go_wp2
    refine bodyPost_ret (v := .tuple #[.agg #[.slice none 0 0, .slice none 0 0, .slice none 0 0, .slice none 0 0, .slice none 0 0], .bool false]) (by simp [results, Tryz.results5, CZ, go_sem]) rfl (pm_no HV.out (E.only1 (by first | omega | (simp; done) | (simp; omega)) (only_five _ _ _ _ _ _ _)))
  have H0 := Lib.hid MX
  have h8 := MX
  unfold mxB at h8
  rw [Bool.and_eq_true, Bool.and_eq_true] at h8
  have HG := Lib.hid h8.1
  have HK := Lib.hid h8.2.1
  have HAM := Lib.hid h8.2.2
  have hB : GrpB p q := (grpB_in h8.1).bd
  have an12 : n ≤ 12 := by have h9 := (amB_in h8.2.2).2.1; rw [HA.out] at h9; exact h9
  have hbe : (grpB p q g && (inR (n : Int) 0 24 && basK p q g (n : Int).toNat)) = basK p q g n := by
    rw [h8.1, inR_iff.2 ⟨by omega, by omega⟩, Int.toNat_natCast]; rfl
  have HBQ := Lib.hid hbe
  clear h8 hbe
  cases hP : (permB perm && decide (perm.length = n))
  case false =>
    have HP := Lib.hid hP
    have HV : Hid (pfK p q g key a perm rs cs = false) := by show _ = _; rw [HKE.out, HME.out, hP, Bool.false_and, Bool.false_and, Bool.and_false]
    clear MX hP
    go_enter Tryz.func5, Tryz.ntmps5
    have CC0 := B0.cells
    have CC1 := B1.cells
    go_wp2_with fail
    refine (mList_any p q g key A n c a _ (ha.ext E) HA.out hn).mono ?_
    rintro en w9 ⟨hen, hb9⟩
    rw [H0.out] at hen; subst hen
    replace E := E.trans hb9
    replace B0 := B0.ext hb9
    replace B1 := B1.ext hb9
    clear hb9
    clear CC0 CC1
    have CC0 := B0.cells
    have CC1 := B1.cells
    go_wp2_with fail
    refine (mPermN_any P k d n perm _ (hp.rd.ext E) hp.len ⟨hp.cap, hp.max⟩ (by omega)).mono ?_
    rintro en w9 ⟨hen, rfl⟩
    rw [HP.out] at hen; subst hen
    clear CC0 CC1
    have FZ := B1.frozen
    have CN := B1.cells
    have CZ := (((((B1.set_ 0 (.slice none 0 0)).set_ 1 (.slice none 0 0)).set_ 2 (.slice none 0 0)).set_ 3 (.slice none 0 0)).set_ 4 (.slice none 0 0)).cells
    go_wp2
    refine bodyPost_ret (v := .tuple #[.agg #[.slice none 0 0, .slice none 0 0, .slice none 0 0, .slice none 0 0, .slice none 0 0], .bool false]) (by simp [results, Tryz.results5, CZ, go_sem]) rfl (pm_no HV.out (E.only1 (by first | omega | (simp; done) | (simp; omega)) (only_five _ _ _ _ _ _ _)))
  have HP := Lib.hid hP
  by_cases h3r : m = n
  case neg =>
    have hner : ((m : Int) != (n : Int)) = true := by simp; omega
    have HV : Hid (pfK p q g key a perm rs cs = false) := by show _ = _; rw [HKE.out, HME.out, decide_eq_false h3r, Bool.false_and, Bool.and_false, Bool.false_and, Bool.and_false]
    clear MX hP h3r
    go_enter Tryz.func5, Tryz.ntmps5
    have CC0 := B0.cells
    have CC1 := B1.cells
    go_wp2_with fail
    refine (mList_any p q g key A n c a _ (ha.ext E) HA.out hn).mono ?_
    rintro en w9 ⟨hen, hb9⟩
    rw [H0.out] at hen; subst hen
    replace E := E.trans hb9
    replace B0 := B0.ext hb9
    replace B1 := B1.ext hb9
    clear hb9
    clear CC0 CC1
    have CC0 := B0.cells
    have CC1 := B1.cells
    go_wp2_with fail
    refine (mPermN_any P k d n perm _ (hp.rd.ext E) hp.len ⟨hp.cap, hp.max⟩ (by omega)).mono ?_
    rintro en w9 ⟨hen, rfl⟩
    rw [HP.out] at hen; subst hen
    clear CC0 CC1
    have FZ := B1.frozen
    have CN := B1.cells
    have CZ := (((((B1.set_ 0 (.slice none 0 0)).set_ 1 (.slice none 0 0)).set_ 2 (.slice none 0 0)).set_ 3 (.slice none 0 0)).set_ 4 (.slice none 0 0)).cells
    go_wp2
    refine bodyPost_ret (v := .tuple #[.agg #[.slice none 0 0, .slice none 0 0, .slice none 0 0, .slice none 0 0, .slice none 0 0], .bool false]) (by simp [results, Tryz.results5, CZ, go_sem]) rfl (pm_no HV.out (E.only1 (by first | omega | (simp; done) | (simp; omega)) (only_five _ _ _ _ _ _ _)))
  have hner : ((m : Int) != (n : Int)) = false := by simp; omega
  cases hR : allR rs 0 (q - 1)
  case false =>
    have HR := Lib.hid hR
    have HV : Hid (pfK p q g key a perm rs cs = false) := by show _ = _; rw [HKE.out, HME.out, hR, Bool.and_false, Bool.and_false, Bool.false_and, Bool.and_false]
    clear MX hP h3r hR
    go_enter Tryz.func5, Tryz.ntmps5
    have CC0 := B0.cells
    have CC1 := B1.cells
    go_wp2_with fail
    refine (mList_any p q g key A n c a _ (ha.ext E) HA.out hn).mono ?_
    rintro en w9 ⟨hen, hb9⟩
    rw [H0.out] at hen; subst hen
    replace E := E.trans hb9
    replace B0 := B0.ext hb9
    replace B1 := B1.ext hb9
    clear hb9
    clear CC0 CC1
    have CC0 := B0.cells
    have CC1 := B1.cells
    go_wp2_with fail
    refine (mPermN_any P k d n perm _ (hp.rd.ext E) hp.len ⟨hp.cap, hp.max⟩ (by omega)).mono ?_
    rintro en w9 ⟨hen, rfl⟩
    rw [HP.out] at hen; subst hen
    clear CC0 CC1
    have CC0 := B0.cells
    have CC1 := B1.cells
    go_wp2_with fail
    refine (gExps_any p q g R m e rs _ hB (hr.rd.ext E) hr.len (by unfold maxLen; omega)).mono ?_
    rintro en w9 ⟨hen, hb9⟩
    rw [HR.out] at hen; subst hen
    replace E := E.trans hb9
    replace B0 := B0.ext hb9
    replace B1 := B1.ext hb9
    clear hb9
    clear CC0 CC1
    have FZ := B1.frozen
    have CN := B1.cells
    have CZ := (((((B1.set_ 0 (.slice none 0 0)).set_ 1 (.slice none 0 0)).set_ 2 (.slice none 0 0)).set_ 3 (.slice none 0 0)).set_ 4 (.slice none 0 0)).cells
    go_wp2
    refine bodyPost_ret (v := .tuple #[.agg #[.slice none 0 0, .slice none 0 0, .slice none 0 0, .slice none 0 0, .slice none 0 0], .bool false]) (by simp [results, Tryz.results5, CZ, go_sem]) rfl (pm_no HV.out (E.only1 (by first | omega | (simp; done) | (simp; omega)) (only_five _ _ _ _ _ _ _)))
  have HR := Lib.hid hR
  have h2 : mixN q perm rs n = true := by rw [HME.out, hP, decide_eq_true h3r, hR]; rfl
  clear hP h3r hR
  have v1 : IntKind.i64.wrap (4 * (n : Int)) = 4 * (n : Int) := by rw [IntKind.wrap_i64]; omega
  have v2 : IntKind.i64.wrap (4 * (n : Int) + 4) = 4 * (n : Int) + 4 := by rw [IntKind.wrap_i64]; omega
  by_cases h3 : m0 = 4 * n + 4
  case neg =>
    have hne : ((m0 : Int) != 4 * (n : Int) + 4) = true := by simp; omega
    have HV : Hid (pfK p q g key a perm rs cs = false) := by show _ = _; rw [HKE.out, decide_eq_false h3, Bool.false_and, Bool.and_false, Bool.and_false]
    clear MX h2 h3
    go_enter Tryz.func5, Tryz.ntmps5
    have CC0 := B0.cells
    have CC1 := B1.cells
    go_wp2_with fail
    refine (mList_any p q g key A n c a _ (ha.ext E) HA.out hn).mono ?_
    rintro en w9 ⟨hen, hb9⟩
    rw [H0.out] at hen; subst hen
    replace E := E.trans hb9
    replace B0 := B0.ext hb9
    replace B1 := B1.ext hb9
    clear hb9
    clear CC0 CC1
    have CC0 := B0.cells
    have CC1 := B1.cells
    go_wp2_with fail
    refine (mPermN_any P k d n perm _ (hp.rd.ext E) hp.len ⟨hp.cap, hp.max⟩ (by omega)).mono ?_
    rintro en w9 ⟨hen, rfl⟩
    rw [HP.out] at hen; subst hen
    clear CC0 CC1
    have CC0 := B0.cells
    have CC1 := B1.cells
    go_wp2_with fail
    refine (gExps_any p q g R m e rs _ hB (hr.rd.ext E) hr.len (by unfold maxLen; omega)).mono ?_
    rintro en w9 ⟨hen, hb9⟩
    rw [HR.out] at hen; subst hen
    replace E := E.trans hb9
    replace B0 := B0.ext hb9
    replace B1 := B1.ext hb9
    clear hb9
    clear CC0 CC1
    have FZ := B1.frozen
    have CN := B1.cells
    have CZ := (((((B1.set_ 0 (.slice none 0 0)).set_ 1 (.slice none 0 0)).set_ 2 (.slice none 0 0)).set_ 3 (.slice none 0 0)).set_ 4 (.slice none 0 0)).cells
    go_wp2
    refine bodyPost_ret (v := .tuple #[.agg #[.slice none 0 0, .slice none 0 0, .slice none 0 0, .slice none 0 0, .slice none 0 0], .bool false]) (by simp [results, Tryz.results5, CZ, go_sem]) rfl (pm_no HV.out (E.only1 (by first | omega | (simp; done) | (simp; omega)) (only_five _ _ _ _ _ _ _)))
  have hne : ((m0 : Int) != 4 * (n : Int) + 4) = false := by simp; omega
  have HM0 := Lib.hid h3
  cases h4 : allR cs 0 (q - 1)
  case false =>
    have H4 := Lib.hid h4
    have HV : Hid (pfK p q g key a perm rs cs = false) := by show _ = _; rw [HKE.out, h4, Bool.and_false, Bool.and_false, Bool.and_false]
    clear MX h2 h3 h4
    go_enter Tryz.func5, Tryz.ntmps5
    have CC0 := B0.cells
    have CC1 := B1.cells
    go_wp2_with fail
    refine (mList_any p q g key A n c a _ (ha.ext E) HA.out hn).mono ?_
    rintro en w9 ⟨hen, hb9⟩
    rw [H0.out] at hen; subst hen
    replace E := E.trans hb9
    replace B0 := B0.ext hb9
    replace B1 := B1.ext hb9
    clear hb9
    clear CC0 CC1
    have CC0 := B0.cells
    have CC1 := B1.cells
    go_wp2_with fail
    refine (mPermN_any P k d n perm _ (hp.rd.ext E) hp.len ⟨hp.cap, hp.max⟩ (by omega)).mono ?_
    rintro en w9 ⟨hen, rfl⟩
    rw [HP.out] at hen; subst hen
    clear CC0 CC1
    have CC0 := B0.cells
    have CC1 := B1.cells
    go_wp2_with fail
    refine (gExps_any p q g R m e rs _ hB (hr.rd.ext E) hr.len (by unfold maxLen; omega)).mono ?_
    rintro en w9 ⟨hen, hb9⟩
    rw [HR.out] at hen; subst hen
    replace E := E.trans hb9
    replace B0 := B0.ext hb9
    replace B1 := B1.ext hb9
    clear hb9
    clear CC0 CC1
    have CC0 := B0.cells
    have CC1 := B1.cells
    go_wp2_with fail
    refine (gExps_any p q g Kc m0 f0 cs _ hB (hc.rd.ext E) hc.len (by unfold maxLen; omega)).mono ?_
    rintro en w9 ⟨hen, hb9⟩
    rw [H4.out] at hen; subst hen
    replace E := E.trans hb9
    replace B0 := B0.ext hb9
    replace B1 := B1.ext hb9
    clear hb9
    clear CC0 CC1
    have FZ := B1.frozen
    have CN := B1.cells
    have CZ := (((((B1.set_ 0 (.slice none 0 0)).set_ 1 (.slice none 0 0)).set_ 2 (.slice none 0 0)).set_ 3 (.slice none 0 0)).set_ 4 (.slice none 0 0)).cells
    go_wp2
    refine bodyPost_ret (v := .tuple #[.agg #[.slice none 0 0, .slice none 0 0, .slice none 0 0, .slice none 0 0, .slice none 0 0], .bool false]) (by simp [results, Tryz.results5, CZ, go_sem]) rfl (pm_no HV.out (E.only1 (by first | omega | (simp; done) | (simp; omega)) (only_five _ _ _ _ _ _ _)))
  have H4 := Lib.hid h4
  cases BK : basK p q g n
  case false =>
    have H5 : Hid ((grpB p q g && (inR (n : Int) 0 24 && basK p q g (n : Int).toNat)) = false) := by show _ = _; rw [HBQ.out, BK]
    have HV : Hid (pfK p q g key a perm rs cs = false) := by show _ = _; rw [HKE.out, BK, Bool.and_false, Bool.false_and]
    clear MX h2 h3 h4 BK
    go_enter Tryz.func5, Tryz.ntmps5
    have CC0 := B0.cells
    have CC1 := B1.cells
    go_wp2_with fail
    refine (mList_any p q g key A n c a _ (ha.ext E) HA.out hn).mono ?_
    rintro en w9 ⟨hen, hb9⟩
    rw [H0.out] at hen; subst hen
    replace E := E.trans hb9
    replace B0 := B0.ext hb9
    replace B1 := B1.ext hb9
    clear hb9
    clear CC0 CC1
    have CC0 := B0.cells
    have CC1 := B1.cells
    go_wp2_with fail
    refine (mPermN_any P k d n perm _ (hp.rd.ext E) hp.len ⟨hp.cap, hp.max⟩ (by omega)).mono ?_
    rintro en w9 ⟨hen, rfl⟩
    rw [HP.out] at hen; subst hen
    clear CC0 CC1
    have CC0 := B0.cells
    have CC1 := B1.cells
    go_wp2_with fail
    refine (gExps_any p q g R m e rs _ hB (hr.rd.ext E) hr.len (by unfold maxLen; omega)).mono ?_
    rintro en w9 ⟨hen, hb9⟩
    rw [HR.out] at hen; subst hen
    replace E := E.trans hb9
    replace B0 := B0.ext hb9
    replace B1 := B1.ext hb9
    clear hb9
    clear CC0 CC1
    have CC0 := B0.cells
    have CC1 := B1.cells
    go_wp2_with fail
    refine (gExps_any p q g Kc m0 f0 cs _ hB (hc.rd.ext E) hc.len (by unfold maxLen; omega)).mono ?_
    rintro en w9 ⟨hen, hb9⟩
    rw [H4.out] at hen; subst hen
    replace E := E.trans hb9
    replace B0 := B0.ext hb9
    replace B1 := B1.ext hb9
    clear hb9
    clear CC0 CC1
    have CC0 := B0.cells
    have CC1 := B1.cells
    go_wp2_with fail
    refine (sBasesOf_any p q g n _).mono ?_
    rintro en w4 ⟨X, AX, mX, cX, hen, hyes, hno, hb9⟩
    rw [H5.out] at hen hyes hno; subst hen
    have hb8 := (Ext.refl w4).alloc (.cells #[.int .i64 X, .slice AX mX cX] 49)
    replace E := E.trans (hb9.trans hb8)
    replace B0 := B0.ext (hb9.trans hb8)
    replace B1 := B1.ext (hb9.trans hb8)
    clear hb8 hb9 hyes hno CC0 CC1
    have FZ := B1.frozen
    have CN := B1.cells
    have CZ := (((((B1.set_ 0 (.slice none 0 0)).set_ 1 (.slice none 0 0)).set_ 2 (.slice none 0 0)).set_ 3 (.slice none 0 0)).set_ 4 (.slice none 0 0)).cells
    go_wp2
    refine bodyPost_ret (v := .tuple #[.agg #[.slice none 0 0, .slice none 0 0, .slice none 0 0, .slice none 0 0, .slice none 0 0], .bool false]) (by simp [results, Tryz.results5, CZ, go_sem]) rfl (pm_no HV.out (E.only1 (by first | omega | (simp; done) | (simp; omega)) (only_five _ _ _ _ _ _ _)))
  have H5 : Hid ((grpB p q g && (inR (n : Int) 0 24 && basK p q g (n : Int).toNat)) = true) := by show _ = _; rw [HBQ.out, BK]
  have HBE := Lib.hid (bas_els (n := n) HG.out BK)
  have hV : pfK p q g key a perm rs cs = true := by rw [HKE.out, MX, BK, h2, decide_eq_true h3, h4]; rfl
  have HV := Lib.hid hV
  unfold mixN at h2
  simp only [Bool.and_eq_true, decide_eq_true_eq] at h2
  obtain ⟨hq1, hq2, hq3, hq4⟩ := h2
  have hkn : n = k := hq2.symm.trans hp.len
  have hmn : n = m := hq3.symm.trans hr.len
  subst hkn
  have HPL := Lib.hid hq2
  have HRL := Lib.hid hq3
  have HPR : Hid (allR perm 0 (n - 1) = true) := by
    show _ = _
    unfold permB at hq1
    simp only [Bool.and_eq_true] at hq1
    have h9 := hq1.2.1
    rw [hq2] at h9
    exact h9
  have HRB := Lib.hid (allR_iff.1 hq4)
  have HCB := Lib.hid (allR_iff.1 h4)
  subst hmn
  obtain ⟨b0, hb0, hb0c⟩ := hc.rd.at_ (k := 0) (by rw [hc.len]; omega)
  subst hb0
  clear MX BK hb0c hV hq1 hq2 hq3 hq4 h3 h4
  go_enter Tryz.func5, Tryz.ntmps5
  have CC0 := B0.cells
  have CC1 := B1.cells
  go_wp2_with fail
  refine (mList_any p q g key A n c a _ (ha.ext E) HA.out hn).mono ?_
  rintro en w9 ⟨hen, hb9⟩
  rw [H0.out] at hen; subst hen
  replace E := E.trans hb9
  replace B0 := B0.ext hb9
  replace B1 := B1.ext hb9
  clear hb9
  clear CC0 CC1
  have CC0 := B0.cells
  have CC1 := B1.cells
  go_wp2_with fail
  refine (mPermN_any P n d n perm _ (hp.rd.ext E) hp.len ⟨hp.cap, hp.max⟩ (by omega)).mono ?_
  rintro en w9 ⟨hen, rfl⟩
  rw [HP.out] at hen; subst hen
  clear CC0 CC1
  have CC0 := B0.cells
  have CC1 := B1.cells
  go_wp2_with fail
  refine (gExps_any p q g R n e rs _ hB (hr.rd.ext E) hr.len (by unfold maxLen; omega)).mono ?_
  rintro en w9 ⟨hen, hb9⟩
  rw [HR.out] at hen; subst hen
  replace E := E.trans hb9
  replace B0 := B0.ext hb9
  replace B1 := B1.ext hb9
  clear hb9
  clear CC0 CC1
  have CC0 := B0.cells
  have CC1 := B1.cells
  go_wp2_with fail
  refine (gExps_any p q g (some b0) m0 f0 cs _ hB (hc.rd.ext E) hc.len (by unfold maxLen; omega)).mono ?_
  rintro en w9 ⟨hen, hb9⟩
  rw [H4.out] at hen; subst hen
  replace E := E.trans hb9
  replace B0 := B0.ext hb9
  replace B1 := B1.ext hb9
  clear hb9
  clear CC0 CC1
  have CC0 := B0.cells
  have CC1 := B1.cells
  go_wp2_with fail
  refine (sBasesOf_any p q g n _).mono ?_
  rintro en w4 ⟨X, AX, mX, cX, hen, hyes, hno, hb9⟩
  rw [H5.out] at hen hyes hno; subst hen
  have HX := Lib.hid (hyes rfl).1
  have hO := (hyes rfl).2
  have BB := Blk.new w4 49 #[.int .i64 X, .slice AX mX cX]
  have hb8 := (Ext.refl w4).alloc (.cells #[.int .i64 X, .slice AX mX cX] 49)
  replace hO := hO.ext hb8
  replace E := E.trans (hb9.trans hb8)
  replace B0 := B0.ext (hb9.trans hb8)
  replace B1 := B1.ext (hb9.trans hb8)
  clear hb8 hb9 hyes hno CC0 CC1
  rw [Int.toNat_natCast] at hO
  have hmX : n = mX := by rw [← hO.len, derL_length]
  subst hmX
  have CC0 := B0.cells
  have CC1 := B1.cells
  have CB := BB.cells
  go_wp2_with fail
  refine (sProve_any p q g key X AX cX (derL p q g ⟨#[104, 115]⟩ n) A n c a P d perm R e rs b0 m0 f0 cs _ HG.out HK.out (by rw [HX.out]; exact HBE.out.1) hO.rd (derL_length _ _ _ _ _) HBE.out.2 (ha.ext E) HA.out HAM.out (hp.rd.ext E) HPL.out HPR.out (hr.rd.ext E) HRL.out HRB.out (hc.ext E) HM0.out HCB.out).mono ?_
  rintro en w9 ⟨D1, g1, D2, g2, D3, g3, D4, g4, D5, g5, co, cn, cm, z, rp, rfl, hPE, hL, hb9⟩
  have hwz := E.size
  replace E := E.trans hb9
  replace B1 := B1.ext hb9
  clear CC0 CC1 CB hb9
  have FZ := B1.frozen
  have CN := B1.cells
  have CZ := (((((B1.set_ 0 (.slice D1 n g1)).set_ 1 (.slice D2 n g2)).set_ 2 (.slice D3 (5 + n) g3)).set_ 3 (.slice D4 1 g4)).set_ 4 (.slice D5 (4 + n + n) g5)).cells
  go_wp2
  refine bodyPost_ret (v := .tuple #[.agg #[.slice D1 n g1, .slice D2 n g2, .slice D3 (5 + n) g3, .slice D4 1 g4, .slice D5 (4 + n + n) g5], .bool true]) (by simp [results, Tryz.results5, CZ, go_sem]) rfl (pm_yes HA.out HV.out HX.out rfl an12 hPE ((hL.keepBlk5 B1 (by decide) (only_five _ _ _ _ _ _ _)).more hwz) (E.only1 (by first | omega | (simp; done) | (simp; omega)) (only_five _ _ _ _ _ _ _)))
end
open Go.ChangeShapes Go.WideShapes Go.ChangeAt Go.RowKit
theorem OwnL.uncons {w : World} {base n c : Nat} {A : Option Addr} {rs : List (Option Addr × Nat × Nat)} {l : List Int} {ls : List (List Int)} (h : OwnL w base ((A, n, c) :: rs) (l :: ls)) : OwnI w base 3 A n c l ∧ OwnL w base rs ls ∧ Apart (fpI A) (rowsFp rs) := by
  have hn := h.nd
  rw [rowsFp_cons, List.nodup_append] at hn
  refine ⟨h.own 0 (by simp) (by simp), ⟨by simpa using h.len, fun i hi hi' => ?_, hn.2.1⟩, fun b hb hb' => hn.2.2 b hb b hb' rfl⟩
  have := h.own (i + 1) (by simp; omega) (by simp; omega)
  simpa using this
theorem apS {f g : List Nat} (h : Apart f g) : Apart g f := fun b hb hb' => h b hb' hb
theorem OwnL.nilE (w : World) (base : Nat) : OwnL w base [] [] := OwnL.nil w base
set_option maxHeartbeats 1000000 in
theorem markPr3_any {A B C : Option Addr} {n1 c1 n2 c2 n3 c3 : Nat} {l1 l2 l3 : List Int} {base : Nat} {z : Int} {w : World} (h : OwnL w base [(A, n1, c1), (B, n2, c2), (C, n3, c3)] [l1, l2, l3]) (hz : 0 ≤ z) (hn : z + n1 + n2 + n3 ≤ 1000000000) :
    Calls Tryz.prog 29 #[.agg #[.slice A n1 c1, .slice B n2 c2, .slice C n3 c3], .int .i64 z] w fun e w' => e = .returned (.int .i64 (z + n1 + n2 + n3)) ∧ OwnL w' base [(A, n1, c1), (B, n2, c2), (C, n3, c3)] [iota z n1, iota (z + n1) n2, iota (z + n1 + n2) n3] ∧ Only (rowsFp [(A, n1, c1), (B, n2, c2), (C, n3, c3)]) w w' := by
  obtain ⟨ha, h23, ap1⟩ := h.uncons
  obtain ⟨hb, h3, ap2⟩ := h23.uncons
  obtain ⟨hc, _, _⟩ := h3.uncons
  have apB : Apart (fpI A) (fpI B) := fun b hb hb' => ap1 b hb (by rw [rowsFp_cons]; exact List.mem_append_left _ hb')
  have apC : Apart (fpI A) (fpI C) := fun b hb hb' => ap1 b hb (by rw [rowsFp_cons, rowsFp_cons]; exact List.mem_append_right _ (List.mem_append_left _ hb'))
  have apBC : Apart (fpI B) (fpI C) := fun b hb hb' => ap2 b hb (by rw [rowsFp_cons]; exact List.mem_append_left _ hb')
  have B0 := Blk.new w 28 #[.slice A n1 c1, .slice B n2 c2, .slice C n3 c3]
  have E := (Ext.refl w).alloc (.cells #[.slice A n1 c1, .slice B n2 c2, .slice C n3 c3] 28)
  have q0 := B0.cells
  have la := ha.low
  have lb := hb.low
  have ha' := ha.ext E
  have hb' := hb.ext E
  have hc' := hc.ext E
  go_enter Tryz.func29, Tryz.ntmps29
  go_wp2_with fail
  refine (markIntS_any ha' (by omega) (by omega)).mono ?_
  rintro e w1 ⟨rfl, m1, k1⟩
  clear q0
  have B1 := B0.only k1 (fun hh => absurd (la _ hh) (by omega))
  have q0 := B1.cells
  have b1 := hb'.only k1 (apS apB)
  have d1 := hc'.only k1 (apS apC)
  go_wp2_with fail
  refine (markIntS_any b1 (by omega) (by omega)).mono ?_
  rintro e w2 ⟨rfl, m2, k2⟩
  clear q0
  have q0 := (B1.only k2 (fun hh => absurd (lb _ hh) (by omega))).cells
  have a2 := m1.only k2 apB
  have d2 := d1.only k2 (apS apBC)
  go_wp2_with fail
  refine (markIntS_any d2 (by omega) (by omega)).mono ?_
  rintro e w3 ⟨rfl, m3, k3⟩
  have a3 := a2.only k3 apC
  have b3 := m2.only k3 apBC
  go_wp2
  go_ret
  refine ⟨rfl, OwnL.cons a3 (OwnL.cons b3 (OwnL.one m3) (by rw [rowsFp_one]; exact apBC)) (fun b hb hb' => ?_), ?_⟩
  · rw [rowsFp_cons, rowsFp_one] at hb'
    rcases List.mem_append.1 hb' with h9 | h9
    · exact apB b hb h9
    · exact apC b hb h9
  · have h9 := (E.toOnly []).trans (k1.trans (k2.trans k3))
    refine h9.mono fun b hb => ?_
    simp only [List.nil_append, List.mem_append] at hb
    rw [rowsFp_cons, rowsFp_cons, rowsFp_one]
    simp only [List.mem_append]
    exact hb
set_option maxHeartbeats 1000000 in
theorem markMatrixProof_any {A B C D F : Option Addr} {n1 c1 n2 c2 n3 c3 n4 c4 n5 c5 : Nat} {l1 l2 l3 l4 l5 : List Int} {base : Nat} {z : Int} {w : World} (h : OwnL w base [(A, n1, c1), (B, n2, c2), (C, n3, c3), (D, n4, c4), (F, n5, c5)] [l1, l2, l3, l4, l5]) (hz : 0 ≤ z) (hn : z + n1 + n2 + n3 + n4 + n5 ≤ 1000000000) :
    Calls Tryz.prog 15 #[.agg #[.slice A n1 c1, .slice B n2 c2, .slice C n3 c3, .slice D n4 c4, .slice F n5 c5], .int .i64 z] w fun e w' => e = .returned (.int .i64 (z + n1 + n2 + n3 + n4 + n5)) ∧ OwnL w' base [(A, n1, c1), (B, n2, c2), (C, n3, c3), (D, n4, c4), (F, n5, c5)] [iota z n1, iota (z + n1) n2, iota (z + n1 + n2) n3, iota (z + n1 + n2 + n3) n4, iota (z + n1 + n2 + n3 + n4) n5] ∧ Only (rowsFp [(A, n1, c1), (B, n2, c2), (C, n3, c3), (D, n4, c4), (F, n5, c5)]) w w' := by
  obtain ⟨ha, h2, ap1⟩ := h.uncons
  obtain ⟨hb, h3, ap2⟩ := h2.uncons
  have apB : Apart (fpI A) (fpI B) := fun b hb hb' => ap1 b hb (by rw [rowsFp_cons]; exact List.mem_append_left _ hb')
  have apC : Apart (fpI A) (rowsFp [(C, n3, c3), (D, n4, c4), (F, n5, c5)]) := fun b hb hb' => ap1 b hb (by rw [rowsFp_cons]; exact List.mem_append_right _ hb')
  have B0 := Blk.new w 30 #[.slice A n1 c1, .slice B n2 c2, .slice C n3 c3, .slice D n4 c4, .slice F n5 c5]
  have E := (Ext.refl w).alloc (.cells #[.slice A n1 c1, .slice B n2 c2, .slice C n3 c3, .slice D n4 c4, .slice F n5 c5] 30)
  have q0 := B0.cells
  have la := ha.low
  have lb := hb.low
  have ha' := ha.ext E
  have hb' := hb.ext E
  have hc' := h3.ext E
  go_enter Tryz.func15, Tryz.ntmps15
  go_wp2_with fail
  refine (markIntS_any ha' (by omega) (by omega)).mono ?_
  rintro e w1 ⟨rfl, m1, k1⟩
  clear q0
  have B1 := B0.only k1 (fun hh => absurd (la _ hh) (by omega))
  have q0 := B1.cells
  have b1 := hb'.only k1 (apS apB)
  have d1 := hc'.only k1 (apS apC)
  go_wp2_with fail
  refine (markIntS_any b1 (by omega) (by omega)).mono ?_
  rintro e w2 ⟨rfl, m2, k2⟩
  clear q0
  have q0 := (B1.only k2 (fun hh => absurd (lb _ hh) (by omega))).cells
  have a2 := m1.only k2 apB
  have d2 := d1.only k2 (apS ap2)
  go_wp2_with fail
  refine (markPr3_any d2 (by omega) (by omega)).mono ?_
  rintro e w3 ⟨rfl, m3, k3⟩
  have a3 := a2.only k3 apC
  have b3 := m2.only k3 ap2
  go_wp2
  go_ret
  refine ⟨rfl, OwnL.cons a3 (OwnL.cons b3 m3 ap2) ap1, ?_⟩
  have h9 := (E.toOnly []).trans (k1.trans (k2.trans k3))
  refine h9.mono fun b hb => ?_
  simp only [List.nil_append, List.mem_append] at hb
  rw [rowsFp_cons, rowsFp_cons]
  simp only [List.mem_append]
  exact hb
set_option maxHeartbeats 1000000 in
theorem heldPr3_any {A B C : Option Addr} {n1 c1 n2 c2 n3 c3 : Nat} {z : Int} {w : World} (ha : RdI w A (iota z n1)) (hb : RdI w B (iota (z + n1) n2)) (hc : RdI w C (iota (z + n1 + n2) n3)) (hz : 0 ≤ z) (hn : z + n1 + n2 + n3 ≤ 1000000000) :
    Calls Tryz.prog 31 #[.agg #[.slice A n1 c1, .slice B n2 c2, .slice C n3 c3], .int .i64 z] w fun e w' => e = .returned (.int .i64 (z + n1 + n2 + n3)) ∧ Ext w w' := by
  have B0 := Blk.new w 28 #[.slice A n1 c1, .slice B n2 c2, .slice C n3 c3]
  have E := (Ext.refl w).alloc (.cells #[.slice A n1 c1, .slice B n2 c2, .slice C n3 c3] 28)
  have q0 := B0.cells
  go_enter Tryz.func31, Tryz.ntmps31
  go_wp2_with fail
  refine (heldIntS_any (ha.ext E) (by omega) (by omega)).mono ?_
  rintro e w1 ⟨rfl, e1⟩
  clear q0
  have B1 := B0.ext e1
  have q0 := B1.cells
  replace E := E.trans e1
  go_wp2_with fail
  refine (heldIntS_any (hb.ext E) (by omega) (by omega)).mono ?_
  rintro e w2 ⟨rfl, e2⟩
  clear q0
  have q0 := (B1.ext e2).cells
  replace E := E.trans e2
  go_wp2_with fail
  refine (heldIntS_any (hc.ext E) (by omega) (by omega)).mono ?_
  rintro e w3 ⟨rfl, e3⟩
  go_wp2
  go_ret
  exact ⟨rfl, E.trans e3⟩
set_option maxHeartbeats 1000000 in
theorem heldMatrixProof_any {A B C D F : Option Addr} {n1 c1 n2 c2 n3 c3 n4 c4 n5 c5 : Nat} {base : Nat} {z : Int} {w : World} (h : OwnL w base [(A, n1, c1), (B, n2, c2), (C, n3, c3), (D, n4, c4), (F, n5, c5)] [iota z n1, iota (z + n1) n2, iota (z + n1 + n2) n3, iota (z + n1 + n2 + n3) n4, iota (z + n1 + n2 + n3 + n4) n5]) (hz : 0 ≤ z) (hn : z + n1 + n2 + n3 + n4 + n5 ≤ 1000000000) :
    Calls Tryz.prog 16 #[.agg #[.slice A n1 c1, .slice B n2 c2, .slice C n3 c3, .slice D n4 c4, .slice F n5 c5], .int .i64 z] w fun e w' => e = .returned (.int .i64 (z + n1 + n2 + n3 + n4 + n5)) ∧ Ext w w' := by
  obtain ⟨ha, h2, _⟩ := h.uncons
  obtain ⟨hb, h3, _⟩ := h2.uncons
  obtain ⟨hc, h4, _⟩ := h3.uncons
  obtain ⟨hd, h5, _⟩ := h4.uncons
  obtain ⟨hf, _, _⟩ := h5.uncons
  have B0 := Blk.new w 30 #[.slice A n1 c1, .slice B n2 c2, .slice C n3 c3, .slice D n4 c4, .slice F n5 c5]
  have E := (Ext.refl w).alloc (.cells #[.slice A n1 c1, .slice B n2 c2, .slice C n3 c3, .slice D n4 c4, .slice F n5 c5] 30)
  have q0 := B0.cells
  go_enter Tryz.func16, Tryz.ntmps16
  go_wp2_with fail
  refine (heldIntS_any (ha.rd.ext E) (by omega) (by omega)).mono ?_
  rintro e w1 ⟨rfl, e1⟩
  clear q0
  have B1 := B0.ext e1
  have q0 := B1.cells
  replace E := E.trans e1
  go_wp2_with fail
  refine (heldIntS_any (hb.rd.ext E) (by omega) (by omega)).mono ?_
  rintro e w2 ⟨rfl, e2⟩
  clear q0
  have q0 := (B1.ext e2).cells
  replace E := E.trans e2
  go_wp2_with fail
  refine (heldPr3_any (hc.rd.ext E) (hd.rd.ext E) (hf.rd.ext E) (by omega) (by omega)).mono ?_
  rintro e w3 ⟨rfl, e3⟩
  go_wp2
  go_ret
  exact ⟨rfl, E.trans e3⟩
theorem Blk.off_rows {w : World} {g base : Nat} {t : TypeId} {cs : Array Value} {rs : List (Option Addr × Nat × Nat)} {ls : List (List Int)} (hB : Blk w g t cs) (h : OwnL w base rs ls) (hne : t ≠ 3) : g ∉ rowsFp rs := fun hg => by
  obtain ⟨r, hr, hb⟩ := rowsFp_mem.1 hg
  obtain ⟨i, hi, rfl⟩ := List.getElem_of_mem hr
  exact hB.off_own (h.own i hi (by rw [← h.len]; exact hi)).w hne hb
namespace lawProveMatrix
theorem toGroup_any (p q g : Int) (w : World) : Calls Tryz.prog 6 #[.agg #[.int .i64 p, .int .i64 q, .int .i64 g]] w fun e w' => e = .returned (.agg #[.int .i64 p, .int .i64 q, .int .i64 g]) ∧ Ext w w' := by
  go_enter Tryz.func6, Tryz.ntmps6
  go_wp2
  refine bodyPost_ret (v := .agg #[.int .i64 p, .int .i64 q, .int .i64 g]) (by simp [results, Tryz.results6, go_sem]) rfl ⟨rfl, ?_⟩
  (repeat (first | exact Ext.refl _ | assumption | apply Ext.drew | apply Ext.drewN | apply Ext.alloc | refine Ext.setCell ?_ (by simp; try omega) _))
set_option maxRecDepth 100000 in
set_option maxHeartbeats 8000000 in
theorem walk (x0_0 x0_1 x0_2 : Int) (a1 : Int) (A2 : Option Addr) (l2 : List (Int × Int)) (c2 : Nat) (A3 : Option Addr) (l3 : List Int) (c3 : Nat) (A4 : Option Addr) (l4 : List Int) (c4 : Nat) (A5 : Option Addr) (l5 : List Int) (c5 : Nat) (w : World) (f0_0 : Fits x0_0) (f0_1 : Fits x0_1) (f0_2 : Fits x0_2) (f1 : Fits a1) (r2 : RdC w A2 l2) (b2 : l2.length ≤ c2) (m2 : c2 ≤ maxLen) (z2 : A2 = none → c2 = 0) (f2 : ∀ n ∈ l2, Fits n.1 ∧ Fits n.2) (r3 : RdI w A3 l3) (b3 : l3.length ≤ c3) (m3 : c3 ≤ maxLen) (z3 : A3 = none → c3 = 0) (f3 : ∀ n ∈ l3, Fits n) (r4 : RdI w A4 l4) (b4 : l4.length ≤ c4) (m4 : c4 ≤ maxLen) (z4 : A4 = none → c4 = 0) (f4 : ∀ n ∈ l4, Fits n) (r5 : RdI w A5 l5) (b5 : l5.length ≤ c5) (m5 : c5 ≤ maxLen) (z5 : A5 = none → c5 = 0) (f5 : ∀ n ∈ l5, Fits n) :
    Calls Tryz.prog 3 #[.agg #[.int .i64 x0_0, .int .i64 x0_1, .int .i64 x0_2], .int .i64 a1, .slice A2 l2.length c2, .slice A3 l3.length c3, .slice A4 l4.length c4, .slice A5 l5.length c5] w fun e w' => e = .returned (.bool true) ∧ Ext w w' := by
  clear z2 f2
  have Q2 : l2.length ≤ 9223372036854775807 := by unfold maxLen at m2; omega
  generalize hn2 : l2.length = n2 at *
  have Hn2 := Lib.hid hn2
  clear hn2
  have R3 : SlI w A3 l3.length c3 l3 := ⟨r3, rfl, b3, m3⟩
  clear z3 f3
  have Q3 : l3.length ≤ 9223372036854775807 := by unfold maxLen at m3; omega
  generalize hn3 : l3.length = n3 at *
  have Hn3 := Lib.hid hn3
  clear hn3
  have R4 : SlI w A4 l4.length c4 l4 := ⟨r4, rfl, b4, m4⟩
  clear z4 f4
  have Q4 : l4.length ≤ 9223372036854775807 := by unfold maxLen at m4; omega
  generalize hn4 : l4.length = n4 at *
  have Hn4 := Lib.hid hn4
  clear hn4
  have R5 : SlI w A5 l5.length c5 l5 := ⟨r5, rfl, b5, m5⟩
  clear z5 f5
  have Q5 : l5.length ≤ 9223372036854775807 := by unfold maxLen at m5; omega
  generalize hn5 : l5.length = n5 at *
  have Hn5 := Lib.hid hn5
  clear hn5
  obtain ⟨zb, hzb⟩ : ∃ zb, pfK x0_0 x0_1 x0_2 a1 l2 l3 l4 l5 = zb := ⟨_, rfl⟩
  have HZ := Lib.hid hzb
  clear hzb
  have B0 := Blk.new (w) 23 #[.int .i64 x0_0, .int .i64 x0_1, .int .i64 x0_2]
  have E := ((Ext.refl w).alloc (.cells #[.int .i64 x0_0, .int .i64 x0_1, .int .i64 x0_2] 23))
  rcases Nat.lt_or_ge 1048576 n3 with S3 | S3
  · go_enter Tryz.func3, Tryz.ntmps3
    go_wp2
    go_ret
    exact ⟨rfl, E⟩
  rcases Nat.lt_or_ge 1048576 n4 with S4 | S4
  · go_enter Tryz.func3, Tryz.ntmps3
    go_wp2
    go_ret
    exact ⟨rfl, E⟩
  rcases Nat.lt_or_ge 1048576 n5 with S5 | S5
  · go_enter Tryz.func3, Tryz.ntmps3
    go_wp2
    go_ret
    exact ⟨rfl, E⟩
  go_enter Tryz.func3, Tryz.ntmps3
  have CC0 := B0.cells
  go_wp2_with fail
  clear CC0
  generalize (w.alloc (.cells #[.int .i64 x0_0, .int .i64 x0_1, .int .i64 x0_2] 23)) = w0 at *
  rcases Nat.lt_or_ge (1048576) (n2) with S2 | S2
  · refine (szCipherS_no (by omega)).mono ?_
    rintro e w' ⟨rfl, rfl⟩
    go_wp2
    go_ret
    exact ⟨rfl, E⟩
  refine (szCipherS_yes (by omega)).mono ?_
  rintro e w' ⟨rfl, rfl⟩
  have CC0 := B0.cells
  go_wp2_with fail
  refine (toGroup_any x0_0 x0_1 x0_2 _).mono ?_
  rintro en w1 ⟨rfl, hb⟩
  clear CC0
  replace E := E.trans hb
  replace B0 := B0.ext hb
  clear hb
  have CC0 := B0.cells
  go_wp2_with fail
  have LB0_t1 := B0.lt
  have Zt1 := E.size
  refine (toCipherS_any A2 n2 c2 l2 _ (RdC.ext r2 (E.trans (Ext.refl _))) Hn2.out (by omega)).mono ?_
  rintro en w2 ⟨At1, ct1, rfl, t1, hb⟩
  clear CC0
  replace E := E.trans hb
  replace B0 := B0.ext hb
  clear hb
  have CC0 := B0.cells
  go_wp2_with fail
  have Lt1_t2 := t1.low
  have LB0_t2 := B0.lt
  have Zt2 := E.size
  refine (toIntS_any A3 n3 c3 l3 _ (RdI.ext R3.rd (E.trans (Ext.refl _))) Hn3.out (by omega)).mono ?_
  rintro en w3 ⟨At2, ct2, rfl, t2, hb⟩
  clear CC0
  replace E := E.trans hb
  replace B0 := B0.ext hb
  replace t1 := t1.ext hb
  clear hb
  have CC0 := B0.cells
  go_wp2_with fail
  have Lt1_t3 := t1.low
  have Lt2_t3 := t2.low
  have LB0_t3 := B0.lt
  have Zt3 := E.size
  refine (toIntS_any A4 n4 c4 l4 _ (RdI.ext R4.rd (E.trans (Ext.refl _))) Hn4.out (by omega)).mono ?_
  rintro en w4 ⟨At3, ct3, rfl, t3, hb⟩
  clear CC0
  replace E := E.trans hb
  replace B0 := B0.ext hb
  replace t1 := t1.ext hb
  replace t2 := t2.ext hb
  clear hb
  have CC0 := B0.cells
  go_wp2_with fail
  have Lt1_t4 := t1.low
  have Lt2_t4 := t2.low
  have Lt3_t4 := t3.low
  have LB0_t4 := B0.lt
  have Zt4 := E.size
  refine (toIntS_any A5 n5 c5 l5 _ (RdI.ext R5.rd (E.trans (Ext.refl _))) Hn5.out (by omega)).mono ?_
  rintro en w5 ⟨At4, ct4, rfl, t4, hb⟩
  clear CC0
  replace E := E.trans hb
  replace B0 := B0.ext hb
  replace t1 := t1.ext hb
  replace t2 := t2.ext hb
  replace t3 := t3.ext hb
  clear hb
  have CC0 := B0.cells
  go_wp2_with fail
  have Lt1_Ow0 := t1.low
  have Lt2_Ow0 := t2.low
  have Lt3_Ow0 := t3.low
  have Lt4_Ow0 := t4.low
  have LB0_Ow0 := B0.lt
  have ZOw0 := E.size
  refine (sProveMatrix_any x0_0 x0_1 x0_2 a1 At1 n2 ct1 l2 At2 n3 ct2 l3 At3 n4 ct3 l4 At4 n5 ct4 l5 _ (RdC.ext t1.rd (Ext.refl _)) t1.len (by unfold maxLen; omega) (SlI.ext t2.sl (Ext.refl _)) (SlI.ext t3.sl (Ext.refl _)) (by omega) (SlI.ext t4.sl (Ext.refl _)) (by omega)).mono ?_
  rintro en w6 ⟨Cw00, nw00, ew00, Cw01, nw01, ew01, Cw02, nw02, ew02, Cw03, nw03, ew03, Cw04, nw04, ew04, cow0 , cnw0 , cmw0 , chw0 , rpw0, hen, PIw0, Ow0, Nw0, hb⟩
  rw [HZ.out] at hen; subst hen
  clear CC0
  replace E := E.trans hb
  replace B0 := B0.ext hb
  replace t1 := t1.ext hb
  replace t2 := t2.ext hb
  replace t3 := t3.ext hb
  replace t4 := t4.ext hb
  clear hb
  clear t1
  clear t2
  clear t3
  clear t4
  have CC0 := B0.cells
  have CD0 := (B0.alloc (.cells #[.slice Cw00 nw00 ew00, .slice Cw01 nw01 ew01, .slice Cw02 nw02 ew02, .slice Cw03 nw03 ew03, .slice Cw04 nw04 ew04] 30)).cells
  go_wp2_with fail
  clear CC0
  clear CD0
  have hb := (Ext.refl w6).alloc (.cells #[.slice Cw00 nw00 ew00, .slice Cw01 nw01 ew01, .slice Cw02 nw02 ew02, .slice Cw03 nw03 ew03, .slice Cw04 nw04 ew04] 30)
  replace E := E.trans hb
  replace B0 := B0.ext hb
  replace Ow0 := Ow0.ext hb
  have Bw0x := Blk.new w6 30 #[.slice Cw00 nw00 ew00, .slice Cw01 nw01 ew01, .slice Cw02 nw02 ew02, .slice Cw03 nw03 ew03, .slice Cw04 nw04 ew04]
  generalize hgw0 : w6.heap.size = gw0 at *
  clear hgw0 hb
  generalize w6.alloc (.cells #[.slice Cw00 nw00 ew00, .slice Cw01 nw01 ew01, .slice Cw02 nw02 ew02, .slice Cw03 nw03 ew03, .slice Cw04 nw04 ew04] 30) = w7 at *
  have LOw0_x2 := Ow0.low
  have LB0_x2 := B0.lt
  have LBw0x_x2 := Bw0x.lt
  have Zx2 := E.size
  refine (toCipherS_any A2 n2 c2 l2 _ (RdC.ext r2 (E.trans (Ext.refl _))) Hn2.out (by omega)).mono ?_
  rintro en w8 ⟨Ax2, cx2, rfl, x2, hb⟩
  replace E := E.trans hb
  replace B0 := B0.ext hb
  replace Bw0x := Bw0x.ext hb
  replace Ow0 := Ow0.ext hb
  clear hb
  have CC0 := B0.cells
  have CCw0x := Bw0x.cells
  go_wp2_with fail
  have LOw0_x3 := Ow0.low
  have Lx2_x3 := x2.low
  have LB0_x3 := B0.lt
  have LBw0x_x3 := Bw0x.lt
  have Zx3 := E.size
  refine (toIntS_any A3 n3 c3 l3 _ (RdI.ext R3.rd (E.trans (Ext.refl _))) Hn3.out (by omega)).mono ?_
  rintro en w9 ⟨Ax3, cx3, rfl, x3, hb⟩
  clear CC0 CCw0x
  replace E := E.trans hb
  replace B0 := B0.ext hb
  replace Bw0x := Bw0x.ext hb
  replace Ow0 := Ow0.ext hb
  replace x2 := x2.ext hb
  clear hb
  have CC0 := B0.cells
  have CCw0x := Bw0x.cells
  go_wp2_with fail
  have LOw0_x4 := Ow0.low
  have Lx2_x4 := x2.low
  have Lx3_x4 := x3.low
  have LB0_x4 := B0.lt
  have LBw0x_x4 := Bw0x.lt
  have Zx4 := E.size
  refine (toIntS_any A4 n4 c4 l4 _ (RdI.ext R4.rd (E.trans (Ext.refl _))) Hn4.out (by omega)).mono ?_
  rintro en w10 ⟨Ax4, cx4, rfl, x4, hb⟩
  clear CC0 CCw0x
  replace E := E.trans hb
  replace B0 := B0.ext hb
  replace Bw0x := Bw0x.ext hb
  replace Ow0 := Ow0.ext hb
  replace x2 := x2.ext hb
  replace x3 := x3.ext hb
  clear hb
  have CC0 := B0.cells
  have CCw0x := Bw0x.cells
  go_wp2_with fail
  have LOw0_x5 := Ow0.low
  have Lx2_x5 := x2.low
  have Lx3_x5 := x3.low
  have Lx4_x5 := x4.low
  have LB0_x5 := B0.lt
  have LBw0x_x5 := Bw0x.lt
  have Zx5 := E.size
  refine (toIntS_any A5 n5 c5 l5 _ (RdI.ext R5.rd (E.trans (Ext.refl _))) Hn5.out (by omega)).mono ?_
  rintro en w11 ⟨Ax5, cx5, rfl, x5, hb⟩
  clear CC0 CCw0x
  replace E := E.trans hb
  replace B0 := B0.ext hb
  replace Bw0x := Bw0x.ext hb
  replace Ow0 := Ow0.ext hb
  replace x2 := x2.ext hb
  replace x3 := x3.ext hb
  replace x4 := x4.ext hb
  clear hb
  have CC0 := B0.cells
  have CCw0x := Bw0x.cells
  go_wp2_with fail
  refine (toGroup_any x0_0 x0_1 x0_2 _).mono ?_
  rintro en w12 ⟨rfl, hb⟩
  clear CC0 CCw0x
  replace E := E.trans hb
  replace B0 := B0.ext hb
  replace Bw0x := Bw0x.ext hb
  replace Ow0 := Ow0.ext hb
  replace x2 := x2.ext hb
  replace x3 := x3.ext hb
  replace x4 := x4.ext hb
  replace x5 := x5.ext hb
  clear hb
  have CC0 := B0.cells
  have CCw0x := Bw0x.cells
  go_wp2_with fail
  have LOw0_Og0 := Ow0.low
  have Lx2_Og0 := x2.low
  have Lx3_Og0 := x3.low
  have Lx4_Og0 := x4.low
  have Lx5_Og0 := x5.low
  have LB0_Og0 := B0.lt
  have LBw0x_Og0 := Bw0x.lt
  have ZOg0 := E.size
  refine (iProveMatrix_any x0_0 x0_1 x0_2 a1 Ax2 n2 cx2 l2 Ax3 n3 cx3 l3 Ax4 n4 cx4 l4 Ax5 n5 cx5 l5 _ (RdC.ext x2.rd (Ext.refl _)) x2.len (by unfold maxLen; omega) (SlI.ext x3.sl (Ext.refl _)) (SlI.ext x4.sl (Ext.refl _)) (by omega) (SlI.ext x5.sl (Ext.refl _)) (by omega)).mono ?_
  rintro en w13 ⟨Cg00, ng00, eg00, Cg01, ng01, eg01, Cg02, ng02, eg02, Cg03, ng03, eg03, Cg04, ng04, eg04, cog0 , cng0 , cmg0 , chg0 , rpg0, hen, PIg0, Og0, Ng0, hb⟩
  rw [HZ.out] at hen; subst hen
  obtain ⟨rfl, rfl, rfl, rfl, rfl⟩ := PvIs.one PIw0 PIg0
  clear PIg0
  clear CC0 CCw0x
  replace E := E.trans hb
  replace B0 := B0.ext hb
  replace Bw0x := Bw0x.ext hb
  replace Ow0 := Ow0.ext hb
  replace x2 := x2.ext hb
  replace x3 := x3.ext hb
  replace x4 := x4.ext hb
  replace x5 := x5.ext hb
  clear hb
  have CC0 := B0.cells
  have CCw0x := Bw0x.cells
  have CD0 := (B0.alloc (.cells #[.slice Cg00 ng00 eg00, .slice Cg01 ng01 eg01, .slice Cg02 ng02 eg02, .slice Cg03 ng03 eg03, .slice Cg04 ng04 eg04] 30)).cells
  have CDw0x := (Bw0x.alloc (.cells #[.slice Cg00 ng00 eg00, .slice Cg01 ng01 eg01, .slice Cg02 ng02 eg02, .slice Cg03 ng03 eg03, .slice Cg04 ng04 eg04] 30)).cells
  go_wp2_with fail
  clear CC0 CCw0x
  clear CD0 CDw0x
  have hb := (Ext.refl w13).alloc (.cells #[.slice Cg00 ng00 eg00, .slice Cg01 ng01 eg01, .slice Cg02 ng02 eg02, .slice Cg03 ng03 eg03, .slice Cg04 ng04 eg04] 30)
  replace E := E.trans hb
  replace B0 := B0.ext hb
  replace Bw0x := Bw0x.ext hb
  replace Ow0 := Ow0.ext hb
  replace x2 := x2.ext hb
  replace x3 := x3.ext hb
  replace x4 := x4.ext hb
  replace x5 := x5.ext hb
  replace Og0 := Og0.ext hb
  have Bg0x := Blk.new w13 30 #[.slice Cg00 ng00 eg00, .slice Cg01 ng01 eg01, .slice Cg02 ng02 eg02, .slice Cg03 ng03 eg03, .slice Cg04 ng04 eg04]
  generalize hgg0 : w13.heap.size = gg0 at *
  clear hgg0 hb
  generalize w13.alloc (.cells #[.slice Cg00 ng00 eg00, .slice Cg01 ng01 eg01, .slice Cg02 ng02 eg02, .slice Cg03 ng03 eg03, .slice Cg04 ng04 eg04] 30) = w14 at *
  refine (eqMatrixProof_same (SlI.ext (RowsRd.five Og0.rd).1 (Ext.refl _)) (SlI.ext (RowsRd.five Og0.rd).2.1 (Ext.refl _)) (SlI.ext (RowsRd.five Og0.rd).2.2.1 (Ext.refl _)) (SlI.ext (RowsRd.five Og0.rd).2.2.2.1 (Ext.refl _)) (SlI.ext (RowsRd.five Og0.rd).2.2.2.2 (Ext.refl _)) (SlI.ext (RowsRd.five Ow0.rd).1 (Ext.refl _)) (SlI.ext (RowsRd.five Ow0.rd).2.1 (Ext.refl _)) (SlI.ext (RowsRd.five Ow0.rd).2.2.1 (Ext.refl _)) (SlI.ext (RowsRd.five Ow0.rd).2.2.2.1 (Ext.refl _)) (SlI.ext (RowsRd.five Ow0.rd).2.2.2.2 (Ext.refl _))).mono ?_
  rintro en w15 ⟨rfl, hb⟩
  replace E := E.trans hb
  replace B0 := B0.ext hb
  replace Bw0x := Bw0x.ext hb
  replace Bg0x := Bg0x.ext hb
  replace Ow0 := Ow0.ext hb
  replace x2 := x2.ext hb
  replace x3 := x3.ext hb
  replace x4 := x4.ext hb
  replace x5 := x5.ext hb
  replace Og0 := Og0.ext hb
  clear hb
  have CC0 := B0.cells
  have CCw0x := Bw0x.cells
  have CCg0x := Bg0x.cells
  go_wp2_with fail
  have LOw0_t5 := Ow0.low
  have Lx2_t5 := x2.low
  have Lx3_t5 := x3.low
  have Lx4_t5 := x4.low
  have Lx5_t5 := x5.low
  have LOg0_t5 := Og0.low
  have LB0_t5 := B0.lt
  have LBw0x_t5 := Bw0x.lt
  have LBg0x_t5 := Bg0x.lt
  have Zt5 := E.size
  refine (toCipherS_any A2 n2 c2 l2 _ (RdC.ext r2 (E.trans (Ext.refl _))) Hn2.out (by omega)).mono ?_
  rintro en w16 ⟨At5, ct5, rfl, t5, hb⟩
  clear CC0 CCw0x CCg0x
  replace E := E.trans hb
  replace B0 := B0.ext hb
  replace Bw0x := Bw0x.ext hb
  replace Bg0x := Bg0x.ext hb
  replace Ow0 := Ow0.ext hb
  replace x2 := x2.ext hb
  replace x3 := x3.ext hb
  replace x4 := x4.ext hb
  replace x5 := x5.ext hb
  replace Og0 := Og0.ext hb
  clear hb
  have CC0 := B0.cells
  have CCw0x := Bw0x.cells
  have CCg0x := Bg0x.cells
  go_wp2_with fail
  refine (eqCipherS_same (RdC.ext x2.rd (Ext.refl _)) (RdC.ext t5.rd (Ext.refl _)) x2.len t5.len x2.le t5.le).mono ?_
  rintro en w17 ⟨rfl, hb⟩
  clear CC0 CCw0x CCg0x
  replace E := E.trans hb
  replace B0 := B0.ext hb
  replace Bw0x := Bw0x.ext hb
  replace Bg0x := Bg0x.ext hb
  replace Ow0 := Ow0.ext hb
  replace x2 := x2.ext hb
  replace x3 := x3.ext hb
  replace x4 := x4.ext hb
  replace x5 := x5.ext hb
  replace Og0 := Og0.ext hb
  replace t5 := t5.ext hb
  clear hb
  clear t5
  have CC0 := B0.cells
  have CCw0x := Bw0x.cells
  have CCg0x := Bg0x.cells
  go_wp2_with fail
  have LOw0_t6 := Ow0.low
  have Lx2_t6 := x2.low
  have Lx3_t6 := x3.low
  have Lx4_t6 := x4.low
  have Lx5_t6 := x5.low
  have LOg0_t6 := Og0.low
  have LB0_t6 := B0.lt
  have LBw0x_t6 := Bw0x.lt
  have LBg0x_t6 := Bg0x.lt
  have Zt6 := E.size
  refine (toIntS_any A3 n3 c3 l3 _ (RdI.ext R3.rd (E.trans (Ext.refl _))) Hn3.out (by omega)).mono ?_
  rintro en w18 ⟨At6, ct6, rfl, t6, hb⟩
  clear CC0 CCw0x CCg0x
  replace E := E.trans hb
  replace B0 := B0.ext hb
  replace Bw0x := Bw0x.ext hb
  replace Bg0x := Bg0x.ext hb
  replace Ow0 := Ow0.ext hb
  replace x2 := x2.ext hb
  replace x3 := x3.ext hb
  replace x4 := x4.ext hb
  replace x5 := x5.ext hb
  replace Og0 := Og0.ext hb
  clear hb
  have CC0 := B0.cells
  have CCw0x := Bw0x.cells
  have CCg0x := Bg0x.cells
  go_wp2_with fail
  refine (eqIntS_same (RdI.ext x3.rd (Ext.refl _)) (RdI.ext t6.rd (Ext.refl _)) x3.len t6.len x3.le t6.le).mono ?_
  rintro en w19 ⟨rfl, hb⟩
  clear CC0 CCw0x CCg0x
  replace E := E.trans hb
  replace B0 := B0.ext hb
  replace Bw0x := Bw0x.ext hb
  replace Bg0x := Bg0x.ext hb
  replace Ow0 := Ow0.ext hb
  replace x2 := x2.ext hb
  replace x3 := x3.ext hb
  replace x4 := x4.ext hb
  replace x5 := x5.ext hb
  replace Og0 := Og0.ext hb
  replace t6 := t6.ext hb
  clear hb
  clear t6
  have CC0 := B0.cells
  have CCw0x := Bw0x.cells
  have CCg0x := Bg0x.cells
  go_wp2_with fail
  have LOw0_t7 := Ow0.low
  have Lx2_t7 := x2.low
  have Lx3_t7 := x3.low
  have Lx4_t7 := x4.low
  have Lx5_t7 := x5.low
  have LOg0_t7 := Og0.low
  have LB0_t7 := B0.lt
  have LBw0x_t7 := Bw0x.lt
  have LBg0x_t7 := Bg0x.lt
  have Zt7 := E.size
  refine (toIntS_any A4 n4 c4 l4 _ (RdI.ext R4.rd (E.trans (Ext.refl _))) Hn4.out (by omega)).mono ?_
  rintro en w20 ⟨At7, ct7, rfl, t7, hb⟩
  clear CC0 CCw0x CCg0x
  replace E := E.trans hb
  replace B0 := B0.ext hb
  replace Bw0x := Bw0x.ext hb
  replace Bg0x := Bg0x.ext hb
  replace Ow0 := Ow0.ext hb
  replace x2 := x2.ext hb
  replace x3 := x3.ext hb
  replace x4 := x4.ext hb
  replace x5 := x5.ext hb
  replace Og0 := Og0.ext hb
  clear hb
  have CC0 := B0.cells
  have CCw0x := Bw0x.cells
  have CCg0x := Bg0x.cells
  go_wp2_with fail
  refine (eqIntS_same (RdI.ext x4.rd (Ext.refl _)) (RdI.ext t7.rd (Ext.refl _)) x4.len t7.len x4.le t7.le).mono ?_
  rintro en w21 ⟨rfl, hb⟩
  clear CC0 CCw0x CCg0x
  replace E := E.trans hb
  replace B0 := B0.ext hb
  replace Bw0x := Bw0x.ext hb
  replace Bg0x := Bg0x.ext hb
  replace Ow0 := Ow0.ext hb
  replace x2 := x2.ext hb
  replace x3 := x3.ext hb
  replace x4 := x4.ext hb
  replace x5 := x5.ext hb
  replace Og0 := Og0.ext hb
  replace t7 := t7.ext hb
  clear hb
  clear t7
  have CC0 := B0.cells
  have CCw0x := Bw0x.cells
  have CCg0x := Bg0x.cells
  go_wp2_with fail
  have LOw0_t8 := Ow0.low
  have Lx2_t8 := x2.low
  have Lx3_t8 := x3.low
  have Lx4_t8 := x4.low
  have Lx5_t8 := x5.low
  have LOg0_t8 := Og0.low
  have LB0_t8 := B0.lt
  have LBw0x_t8 := Bw0x.lt
  have LBg0x_t8 := Bg0x.lt
  have Zt8 := E.size
  refine (toIntS_any A5 n5 c5 l5 _ (RdI.ext R5.rd (E.trans (Ext.refl _))) Hn5.out (by omega)).mono ?_
  rintro en w22 ⟨At8, ct8, rfl, t8, hb⟩
  clear CC0 CCw0x CCg0x
  replace E := E.trans hb
  replace B0 := B0.ext hb
  replace Bw0x := Bw0x.ext hb
  replace Bg0x := Bg0x.ext hb
  replace Ow0 := Ow0.ext hb
  replace x2 := x2.ext hb
  replace x3 := x3.ext hb
  replace x4 := x4.ext hb
  replace x5 := x5.ext hb
  replace Og0 := Og0.ext hb
  clear hb
  have CC0 := B0.cells
  have CCw0x := Bw0x.cells
  have CCg0x := Bg0x.cells
  go_wp2_with fail
  refine (eqIntS_same (RdI.ext x5.rd (Ext.refl _)) (RdI.ext t8.rd (Ext.refl _)) x5.len t8.len x5.le t8.le).mono ?_
  rintro en w23 ⟨rfl, hb⟩
  clear CC0 CCw0x CCg0x
  replace E := E.trans hb
  replace B0 := B0.ext hb
  replace Bw0x := Bw0x.ext hb
  replace Bg0x := Bg0x.ext hb
  replace Ow0 := Ow0.ext hb
  replace x2 := x2.ext hb
  replace x3 := x3.ext hb
  replace x4 := x4.ext hb
  replace x5 := x5.ext hb
  replace Og0 := Og0.ext hb
  replace t8 := t8.ext hb
  clear hb
  clear t8
  have CC0 := B0.cells
  have CCw0x := Bw0x.cells
  have CCg0x := Bg0x.cells
  go_wp2_with fail
  refine (markCipherX_any x2 (by omega) (by omega)).mono ?_
  rintro e w24 ⟨rfl, hm, hO⟩
  clear CC0 CCw0x CCg0x
  replace E := E.only hO (x2.high.mono Zx2)
  replace B0 := B0.only hO (B0.off_own (s := 2) (xs := cs2 _) x2 (by decide))
  replace Bw0x := Bw0x.only hO (Bw0x.off_own (s := 2) (xs := cs2 _) x2 (by decide))
  replace Bg0x := Bg0x.only hO (Bg0x.off_own (s := 2) (xs := cs2 _) x2 (by decide))
  replace Ow0 := Ow0.only hO (Apart.of_low LOw0_x2 x2.high)
  replace x3 := x3.only hO (Apart.of_high Lx2_x3 x3.high)
  replace x4 := x4.only hO (Apart.of_high Lx2_x4 x4.high)
  replace x5 := x5.only hO (Apart.of_high Lx2_x5 x5.high)
  replace Og0 := Og0.only hO (Apart.of_high Lx2_Og0 Og0.high)
  clear hO x2
  clear hm
  have CC0 := B0.cells
  have CCw0x := Bw0x.cells
  have CCg0x := Bg0x.cells
  go_wp2_with fail
  refine (markIntS_any x3 (by omega) (by omega)).mono ?_
  rintro e w25 ⟨rfl, hm, hO⟩
  clear CC0 CCw0x CCg0x
  replace E := E.only hO (x3.high.mono Zx3)
  replace B0 := B0.only hO (B0.off_own x3.w (by decide))
  replace Bw0x := Bw0x.only hO (Bw0x.off_own x3.w (by decide))
  replace Bg0x := Bg0x.only hO (Bg0x.off_own x3.w (by decide))
  replace Ow0 := Ow0.only hO (Apart.of_low LOw0_x3 x3.high)
  replace x4 := x4.only hO (Apart.of_high Lx3_x4 x4.high)
  replace x5 := x5.only hO (Apart.of_high Lx3_x5 x5.high)
  replace Og0 := Og0.only hO (Apart.of_high Lx3_Og0 Og0.high)
  clear hO x3
  clear hm
  have CC0 := B0.cells
  have CCw0x := Bw0x.cells
  have CCg0x := Bg0x.cells
  go_wp2_with fail
  refine (markIntS_any x4 (by omega) (by omega)).mono ?_
  rintro e w26 ⟨rfl, hm, hO⟩
  clear CC0 CCw0x CCg0x
  replace E := E.only hO (x4.high.mono Zx4)
  replace B0 := B0.only hO (B0.off_own x4.w (by decide))
  replace Bw0x := Bw0x.only hO (Bw0x.off_own x4.w (by decide))
  replace Bg0x := Bg0x.only hO (Bg0x.off_own x4.w (by decide))
  replace Ow0 := Ow0.only hO (Apart.of_low LOw0_x4 x4.high)
  replace x5 := x5.only hO (Apart.of_high Lx4_x5 x5.high)
  replace Og0 := Og0.only hO (Apart.of_high Lx4_Og0 Og0.high)
  clear hO x4
  clear hm
  have CC0 := B0.cells
  have CCw0x := Bw0x.cells
  have CCg0x := Bg0x.cells
  go_wp2_with fail
  refine (markIntS_any x5 (by omega) (by omega)).mono ?_
  rintro e w27 ⟨rfl, hm, hO⟩
  clear CC0 CCw0x CCg0x
  replace E := E.only hO (x5.high.mono Zx5)
  replace B0 := B0.only hO (B0.off_own x5.w (by decide))
  replace Bw0x := Bw0x.only hO (Bw0x.off_own x5.w (by decide))
  replace Bg0x := Bg0x.only hO (Bg0x.off_own x5.w (by decide))
  replace Ow0 := Ow0.only hO (Apart.of_low LOw0_x5 x5.high)
  replace Og0 := Og0.only hO (Apart.of_high Lx5_Og0 Og0.high)
  clear hO x5
  clear hm
  have CC0 := B0.cells
  have CCw0x := Bw0x.cells
  have CCg0x := Bg0x.cells
  go_wp2_with fail
  refine (eqMatrixProof_same (SlI.ext (RowsRd.five Og0.rd).1 (Ext.refl _)) (SlI.ext (RowsRd.five Og0.rd).2.1 (Ext.refl _)) (SlI.ext (RowsRd.five Og0.rd).2.2.1 (Ext.refl _)) (SlI.ext (RowsRd.five Og0.rd).2.2.2.1 (Ext.refl _)) (SlI.ext (RowsRd.five Og0.rd).2.2.2.2 (Ext.refl _)) (SlI.ext (RowsRd.five Ow0.rd).1 (Ext.refl _)) (SlI.ext (RowsRd.five Ow0.rd).2.1 (Ext.refl _)) (SlI.ext (RowsRd.five Ow0.rd).2.2.1 (Ext.refl _)) (SlI.ext (RowsRd.five Ow0.rd).2.2.2.1 (Ext.refl _)) (SlI.ext (RowsRd.five Ow0.rd).2.2.2.2 (Ext.refl _))).mono ?_
  rintro en w28 ⟨rfl, hb⟩
  clear CC0 CCw0x CCg0x
  replace E := E.trans hb
  replace B0 := B0.ext hb
  replace Bw0x := Bw0x.ext hb
  replace Bg0x := Bg0x.ext hb
  replace Ow0 := Ow0.ext hb
  replace Og0 := Og0.ext hb
  clear hb
  have CC0 := B0.cells
  have CCw0x := Bw0x.cells
  have CCg0x := Bg0x.cells
  go_wp2_with fail
  refine (markMatrixProof_any Og0 (by omega) (by omega)).mono ?_
  rintro e w29 ⟨rfl, hm, hO⟩
  clear CC0 CCw0x CCg0x
  replace E := E.only hO (Og0.high.mono ZOg0)
  replace B0 := B0.only hO (B0.off_rows Og0 (by decide))
  replace Bw0x := Bw0x.only hO (Bw0x.off_rows Og0 (by decide))
  replace Bg0x := Bg0x.only hO (Bg0x.off_rows Og0 (by decide))
  replace Ow0 := Ow0.only hO (Apart.of_low LOw0_Og0 Og0.high)
  clear hO Og0
  have Og0 := hm
  clear hm
  have CC0 := B0.cells
  have CCw0x := Bw0x.cells
  have CCg0x := Bg0x.cells
  go_wp2_with fail
  refine (heldMatrixProof_any Og0 (by omega) (by omega)).mono ?_
  rintro en w30 ⟨rfl, hb⟩
  clear CC0 CCw0x CCg0x
  replace E := E.trans hb
  replace B0 := B0.ext hb
  replace Bw0x := Bw0x.ext hb
  replace Bg0x := Bg0x.ext hb
  replace Ow0 := Ow0.ext hb
  replace Og0 := Og0.ext hb
  clear hb
  have CC0 := B0.cells
  have CCw0x := Bw0x.cells
  have CCg0x := Bg0x.cells
  go_wp2_with fail
  refine (toGroup_any x0_0 x0_1 x0_2 _).mono ?_
  rintro en w31 ⟨rfl, hb⟩
  clear CC0 CCw0x CCg0x
  replace E := E.trans hb
  replace B0 := B0.ext hb
  replace Bw0x := Bw0x.ext hb
  replace Bg0x := Bg0x.ext hb
  replace Ow0 := Ow0.ext hb
  replace Og0 := Og0.ext hb
  clear hb
  have CC0 := B0.cells
  have CCw0x := Bw0x.cells
  have CCg0x := Bg0x.cells
  go_wp2_with fail
  have LOw0_t9 := Ow0.low
  have LOg0_t9 := Og0.low
  have LB0_t9 := B0.lt
  have LBw0x_t9 := Bw0x.lt
  have LBg0x_t9 := Bg0x.lt
  have Zt9 := E.size
  refine (toCipherS_any A2 n2 c2 l2 _ (RdC.ext r2 (E.trans (Ext.refl _))) Hn2.out (by omega)).mono ?_
  rintro en w32 ⟨At9, ct9, rfl, t9, hb⟩
  clear CC0 CCw0x CCg0x
  replace E := E.trans hb
  replace B0 := B0.ext hb
  replace Bw0x := Bw0x.ext hb
  replace Bg0x := Bg0x.ext hb
  replace Ow0 := Ow0.ext hb
  replace Og0 := Og0.ext hb
  clear hb
  have CC0 := B0.cells
  have CCw0x := Bw0x.cells
  have CCg0x := Bg0x.cells
  go_wp2_with fail
  have LOw0_t10 := Ow0.low
  have LOg0_t10 := Og0.low
  have Lt9_t10 := t9.low
  have LB0_t10 := B0.lt
  have LBw0x_t10 := Bw0x.lt
  have LBg0x_t10 := Bg0x.lt
  have Zt10 := E.size
  refine (toIntS_any A3 n3 c3 l3 _ (RdI.ext R3.rd (E.trans (Ext.refl _))) Hn3.out (by omega)).mono ?_
  rintro en w33 ⟨At10, ct10, rfl, t10, hb⟩
  clear CC0 CCw0x CCg0x
  replace E := E.trans hb
  replace B0 := B0.ext hb
  replace Bw0x := Bw0x.ext hb
  replace Bg0x := Bg0x.ext hb
  replace Ow0 := Ow0.ext hb
  replace Og0 := Og0.ext hb
  replace t9 := t9.ext hb
  clear hb
  have CC0 := B0.cells
  have CCw0x := Bw0x.cells
  have CCg0x := Bg0x.cells
  go_wp2_with fail
  have LOw0_t11 := Ow0.low
  have LOg0_t11 := Og0.low
  have Lt9_t11 := t9.low
  have Lt10_t11 := t10.low
  have LB0_t11 := B0.lt
  have LBw0x_t11 := Bw0x.lt
  have LBg0x_t11 := Bg0x.lt
  have Zt11 := E.size
  refine (toIntS_any A4 n4 c4 l4 _ (RdI.ext R4.rd (E.trans (Ext.refl _))) Hn4.out (by omega)).mono ?_
  rintro en w34 ⟨At11, ct11, rfl, t11, hb⟩
  clear CC0 CCw0x CCg0x
  replace E := E.trans hb
  replace B0 := B0.ext hb
  replace Bw0x := Bw0x.ext hb
  replace Bg0x := Bg0x.ext hb
  replace Ow0 := Ow0.ext hb
  replace Og0 := Og0.ext hb
  replace t9 := t9.ext hb
  replace t10 := t10.ext hb
  clear hb
  have CC0 := B0.cells
  have CCw0x := Bw0x.cells
  have CCg0x := Bg0x.cells
  go_wp2_with fail
  have LOw0_t12 := Ow0.low
  have LOg0_t12 := Og0.low
  have Lt9_t12 := t9.low
  have Lt10_t12 := t10.low
  have Lt11_t12 := t11.low
  have LB0_t12 := B0.lt
  have LBw0x_t12 := Bw0x.lt
  have LBg0x_t12 := Bg0x.lt
  have Zt12 := E.size
  refine (toIntS_any A5 n5 c5 l5 _ (RdI.ext R5.rd (E.trans (Ext.refl _))) Hn5.out (by omega)).mono ?_
  rintro en w35 ⟨At12, ct12, rfl, t12, hb⟩
  clear CC0 CCw0x CCg0x
  replace E := E.trans hb
  replace B0 := B0.ext hb
  replace Bw0x := Bw0x.ext hb
  replace Bg0x := Bg0x.ext hb
  replace Ow0 := Ow0.ext hb
  replace Og0 := Og0.ext hb
  replace t9 := t9.ext hb
  replace t10 := t10.ext hb
  replace t11 := t11.ext hb
  clear hb
  have CC0 := B0.cells
  have CCw0x := Bw0x.cells
  have CCg0x := Bg0x.cells
  go_wp2_with fail
  have LOw0_Oh0 := Ow0.low
  have LOg0_Oh0 := Og0.low
  have Lt9_Oh0 := t9.low
  have Lt10_Oh0 := t10.low
  have Lt11_Oh0 := t11.low
  have Lt12_Oh0 := t12.low
  have LB0_Oh0 := B0.lt
  have LBw0x_Oh0 := Bw0x.lt
  have LBg0x_Oh0 := Bg0x.lt
  have ZOh0 := E.size
  refine (iProveMatrix_any x0_0 x0_1 x0_2 a1 At9 n2 ct9 l2 At10 n3 ct10 l3 At11 n4 ct11 l4 At12 n5 ct12 l5 _ (RdC.ext t9.rd (Ext.refl _)) t9.len (by unfold maxLen; omega) (SlI.ext t10.sl (Ext.refl _)) (SlI.ext t11.sl (Ext.refl _)) (by omega) (SlI.ext t12.sl (Ext.refl _)) (by omega)).mono ?_
  rintro en w36 ⟨Ch00, nh00, eh00, Ch01, nh01, eh01, Ch02, nh02, eh02, Ch03, nh03, eh03, Ch04, nh04, eh04, coh0 , cnh0 , cmh0 , chh0 , rph0, hen, PIh0, Oh0, Nh0, hb⟩
  rw [HZ.out] at hen; subst hen
  obtain ⟨rfl, rfl, rfl, rfl, rfl⟩ := PvIs.one PIw0 PIh0
  clear PIh0
  clear CC0 CCw0x CCg0x
  replace E := E.trans hb
  replace B0 := B0.ext hb
  replace Bw0x := Bw0x.ext hb
  replace Bg0x := Bg0x.ext hb
  replace Ow0 := Ow0.ext hb
  replace Og0 := Og0.ext hb
  replace t9 := t9.ext hb
  replace t10 := t10.ext hb
  replace t11 := t11.ext hb
  replace t12 := t12.ext hb
  clear hb
  clear t9
  clear t10
  clear t11
  clear t12
  have CC0 := B0.cells
  have CCw0x := Bw0x.cells
  have CCg0x := Bg0x.cells
  have CD0 := (B0.alloc (.cells #[.slice Ch00 nh00 eh00, .slice Ch01 nh01 eh01, .slice Ch02 nh02 eh02, .slice Ch03 nh03 eh03, .slice Ch04 nh04 eh04] 30)).cells
  have CDw0x := (Bw0x.alloc (.cells #[.slice Ch00 nh00 eh00, .slice Ch01 nh01 eh01, .slice Ch02 nh02 eh02, .slice Ch03 nh03 eh03, .slice Ch04 nh04 eh04] 30)).cells
  have CDg0x := (Bg0x.alloc (.cells #[.slice Ch00 nh00 eh00, .slice Ch01 nh01 eh01, .slice Ch02 nh02 eh02, .slice Ch03 nh03 eh03, .slice Ch04 nh04 eh04] 30)).cells
  go_wp2_with fail
  clear CC0 CCw0x CCg0x
  clear CD0 CDw0x CDg0x
  have hb := (Ext.refl w36).alloc (.cells #[.slice Ch00 nh00 eh00, .slice Ch01 nh01 eh01, .slice Ch02 nh02 eh02, .slice Ch03 nh03 eh03, .slice Ch04 nh04 eh04] 30)
  replace E := E.trans hb
  replace B0 := B0.ext hb
  replace Bw0x := Bw0x.ext hb
  replace Bg0x := Bg0x.ext hb
  replace Ow0 := Ow0.ext hb
  replace Og0 := Og0.ext hb
  replace Oh0 := Oh0.ext hb
  have Bh0x := Blk.new w36 30 #[.slice Ch00 nh00 eh00, .slice Ch01 nh01 eh01, .slice Ch02 nh02 eh02, .slice Ch03 nh03 eh03, .slice Ch04 nh04 eh04]
  generalize hgh0 : w36.heap.size = gh0 at *
  clear hgh0 hb
  generalize w36.alloc (.cells #[.slice Ch00 nh00 eh00, .slice Ch01 nh01 eh01, .slice Ch02 nh02 eh02, .slice Ch03 nh03 eh03, .slice Ch04 nh04 eh04] 30) = w37 at *
  refine (eqMatrixProof_same (SlI.ext (RowsRd.five Oh0.rd).1 (Ext.refl _)) (SlI.ext (RowsRd.five Oh0.rd).2.1 (Ext.refl _)) (SlI.ext (RowsRd.five Oh0.rd).2.2.1 (Ext.refl _)) (SlI.ext (RowsRd.five Oh0.rd).2.2.2.1 (Ext.refl _)) (SlI.ext (RowsRd.five Oh0.rd).2.2.2.2 (Ext.refl _)) (SlI.ext (RowsRd.five Ow0.rd).1 (Ext.refl _)) (SlI.ext (RowsRd.five Ow0.rd).2.1 (Ext.refl _)) (SlI.ext (RowsRd.five Ow0.rd).2.2.1 (Ext.refl _)) (SlI.ext (RowsRd.five Ow0.rd).2.2.2.1 (Ext.refl _)) (SlI.ext (RowsRd.five Ow0.rd).2.2.2.2 (Ext.refl _))).mono ?_
  rintro en w38 ⟨rfl, hb⟩
  replace E := E.trans hb
  replace B0 := B0.ext hb
  replace Bw0x := Bw0x.ext hb
  replace Bg0x := Bg0x.ext hb
  replace Bh0x := Bh0x.ext hb
  replace Ow0 := Ow0.ext hb
  replace Og0 := Og0.ext hb
  replace Oh0 := Oh0.ext hb
  clear hb
  have CC0 := B0.cells
  have CCw0x := Bw0x.cells
  have CCg0x := Bg0x.cells
  have CCh0x := Bh0x.cells
  go_wp2_with fail
  refine (heldMatrixProof_any Og0 (by omega) (by omega)).mono ?_
  rintro en w39 ⟨rfl, hb⟩
  clear CC0 CCw0x CCg0x CCh0x
  replace E := E.trans hb
  replace B0 := B0.ext hb
  replace Bw0x := Bw0x.ext hb
  replace Bg0x := Bg0x.ext hb
  replace Bh0x := Bh0x.ext hb
  replace Ow0 := Ow0.ext hb
  replace Og0 := Og0.ext hb
  replace Oh0 := Oh0.ext hb
  clear hb
  go_wp2
  go_ret
  exact ⟨rfl, E⟩
end lawProveMatrix

set_option maxRecDepth 100000 in
theorem lawProveMatrix.lifted (os : Os) (started : os.Started) (H : Type) (enc : TypeId × Value → H) :
    ReturnsInHanded {} Tryz.checked os 3 .any (Rows.fnExactProveMatrixSpec.pre6 enc Tryz.prog Tryz.f3 Rows.fnExactProveMatrixRow.domain false) (Rows.fnExactProveMatrixSpec.post enc Tryz.prog Tryz.f3 false true false false) := by
  refine returnsInHanded_of_change (C := Tryz.checked) Facts.own started (by kernel_rfl) Tryz.func3
    (ChangeSpec.witness6 (enc := enc) (C := Tryz.checked) false ⟨#[], #[.agg #[.int .i64 0, .int .i64 0, .int .i64 0], .int .i64 0, .slice none 0 0, .slice none 0 0, .slice none 0 0, .slice none 0 0], []⟩ 8 (by kernel_rfl) (by kernel_rfl) (by kernel_rfl) (by kernel_rfl)) ?_
  intro W base args ds gs before hval0 hW _ _
  have hval : ∀ (j : Nat) t v, Tryz.f3.params[j]? = some t → args[j]? = some v → Value.okWide Tryz.prog W .any base t v := hval0
  have hW' := hW
  obtain ⟨p, q, hA0, hV, rfl, hfz, hnd⟩ := hW
  have hA : DataW.TrodAll enc Tryz.prog W 0 (fun _ => true) true Tryz.f3.params.toList args.toList ds p := hA0
  rw [Tryz.params3] at hA hval
  obtain ⟨v0, vs0, d0, ds0, p0, q0, hargs, rfl, rfl, h0, r0⟩ := trodAll_cons hA
  obtain ⟨v1, vs1, d1, ds1, p1, q1, rfl, rfl, rfl, h1, r1⟩ := trodAll_cons r0
  obtain ⟨v2, vs2, d2, ds2, p2, q2, rfl, rfl, rfl, h2, r2⟩ := trodAll_cons r1
  obtain ⟨v3, vs3, d3, ds3, p3, q3, rfl, rfl, rfl, h3, r3⟩ := trodAll_cons r2
  obtain ⟨v4, vs4, d4, ds4, p4, q4, rfl, rfl, rfl, h4, r4⟩ := trodAll_cons r3
  obtain ⟨v5, vs5, d5, ds5, p5, q5, rfl, rfl, rfl, h5, r5⟩ := trodAll_cons r4
  obtain ⟨rfl, rfl, rfl⟩ := trodAll_nil r5
  obtain rfl : args = #[v0, v1, v2, v3, v4, v5] := by cases args; simp_all
  obtain ⟨rfl, rfl⟩ := trodVars_none hV
  have hlt := hW'.lt
  clear hA hA0 hval0 hargs r0 r1 r2 r3 r4 r5
  have k0 := h0
  have k1 := h1
  have k2 := h2
  have k3 := h3
  have k4 := h4
  have k5 := h5
  obtain ⟨x0_0, x0_1, x0_2, rfl, f0_0, f0_1, f0_2⟩ := openAgg3 Tryz.underlying23 (by kernel_rfl) (by kernel_rfl) rfl (hval 0 23 v0 rfl rfl) h0
  obtain ⟨a1, rfl, f1⟩ := openI Tryz.underlying3 (hval 1 3 v1 rfl rfl) h1
  obtain ⟨A2, l2, c2, rfl, r2, b2, m2, z2, f2⟩ := openGS2 Tryz.underlying24 Tryz.underlying56 (by kernel_rfl) (by kernel_rfl) rfl (hval 2 24 v2 rfl rfl) h2
  obtain ⟨A3, l3, c3, rfl, r3, b3, m3, z3, f3⟩ := openIS Tryz.underlying25 Tryz.underlying3 (by kernel_rfl) (hval 3 25 v3 rfl rfl) h3
  obtain ⟨A4, l4, c4, rfl, r4, b4, m4, z4, f4⟩ := openIS Tryz.underlying25 Tryz.underlying3 (by kernel_rfl) (hval 4 25 v4 rfl rfl) h4
  obtain ⟨A5, l5, c5, rfl, r5, b5, m5, z5, f5⟩ := openIS Tryz.underlying25 Tryz.underlying3 (by kernel_rfl) (hval 5 25 v5 rfl rfl) h5
  refine (lawProveMatrix.walk x0_0 x0_1 x0_2 a1 A2 l2 c2 A3 l3 c3 A4 l4 c4 A5 l5 c5 W f0_0 f0_1 f0_2 f1 r2 b2 m2 z2 f2 r3 b3 m3 z3 f3 r4 b4 m4 z4 f4 r5 b5 m5 z5 f5).mono fun e W' ⟨he, hg⟩ => ?_
  subst he
  exact ⟨_, rfl, post_below (pv := []) hW' (fun _ _ _ => (trodAll_cons_mk (shut_bool Tryz.underlying4 _) trodAll_mk0)) (fun sp hsp => (trodAll_cons_mk (WideElems.Trod_stays Facts.laidOut (by kernel_rfl) (of_decide_eq_true (by kernel_rfl)) k0 (fun x hx => hg.same (hlt x (by simp [hx]))) (fun x hx => hsp x (by simp [hx]))) (trodAll_cons_mk (WideElems.Trod_stays Facts.laidOut (by kernel_rfl) (of_decide_eq_true (by kernel_rfl)) k1 (fun x hx => hg.same (hlt x (by simp [hx]))) (fun x hx => hsp x (by simp [hx]))) (trodAll_cons_mk (WideElems.Trod_stays Facts.laidOut (by kernel_rfl) (of_decide_eq_true (by kernel_rfl)) k2 (fun x hx => hg.same (hlt x (by simp [hx]))) (fun x hx => hsp x (by simp [hx]))) (trodAll_cons_mk (WideElems.Trod_stays Facts.laidOut (by kernel_rfl) (of_decide_eq_true (by kernel_rfl)) k3 (fun x hx => hg.same (hlt x (by simp [hx]))) (fun x hx => hsp x (by simp [hx]))) (trodAll_cons_mk (WideElems.Trod_stays Facts.laidOut (by kernel_rfl) (of_decide_eq_true (by kernel_rfl)) k4 (fun x hx => hg.same (hlt x (by simp [hx]))) (fun x hx => hsp x (by simp [hx]))) (trodAll_cons_mk (WideElems.Trod_stays Facts.laidOut (by kernel_rfl) (of_decide_eq_true (by kernel_rfl)) k5 (fun x hx => hg.same (hlt x (by simp [hx]))) (fun x hx => hsp x (by simp [hx]))) trodAll_mk0))))))) (fun _ _ => rfl) rfl
    hg (ok_one (by kernel_rfl) rfl (okWide_bool_mk Tryz.underlying4 _))⟩

theorem lawProveMatrix.named : Tryz.pinned.checked.prog.funcNamed Rows.fnExactProveMatrixRow.func = some 3 := by kernel_rfl
theorem lawProveMatrix.z9 : (Rows.fnExactProveMatrixRow.inPlace == Tryz.prog.inPlace 3) = true := by kernel_rfl
theorem lawProveMatrix.z10 : (Rows.fnExactProveMatrixRow.unfollowed == Tryz.prog.unfollowed 3) = true := by kernel_rfl
theorem lawProveMatrix.z11 : (Rows.fnExactProveMatrixRow.recurses == Tryz.prog.recurses 3) = true := by kernel_rfl
theorem lawProveMatrix.z12 : (Rows.fnExactProveMatrixRow.named == Tryz.prog.varsNamed 3) = true := by kernel_rfl
theorem lawProveMatrix.closed : joinedFacts Tryz.prog 3 Tryz.f3 Rows.fnExactProveMatrixSpec Rows.fnExactProveMatrixRow = true :=
  joined_of (by kernel_rfl) Facts.laidOut Facts.mapsRowed (by kernel_rfl) (by kernel_rfl) (by kernel_rfl) (by kernel_rfl) (by kernel_rfl) (by kernel_rfl) lawProveMatrix.z9 lawProveMatrix.z10 lawProveMatrix.z11 lawProveMatrix.z12 (by kernel_rfl) (by kernel_rfl) (by kernel_rfl) (by kernel_rfl) (by kernel_rfl) (by kernel_rfl) (by kernel_rfl) (by kernel_rfl) (by kernel_rfl) (by rw [Facts.plainKeys]; rfl) (by kernel_rfl) Facts.heard Facts.enter (by rw [Facts.lifts]; rfl) (by rw [Facts.make]; rfl) (by kernel_rfl) (by kernel_rfl) (by kernel_rfl) (by kernel_rfl)
theorem lawProveMatrix.inst : Tryz.f3.isInstance Tryz.pinned.checked.prog Rows.fnExactProveMatrixRow.origin Rows.fnExactProveMatrixRow.targs := of_decide_eq_true (by kernel_rfl)
theorem lawProveMatrix.wrap : Tryz.f3.isWrapper Tryz.pinned.checked.prog Rows.fnExactProveMatrixRow.wrapper Rows.fnExactProveMatrixRow.mainSum := by
  unfold Func.isWrapper; first | (rw [if_pos (by decide +kernel)]; kernel_rfl) | (rw [if_neg (by decide +kernel)]; exact ⟨rfl, rfl⟩)
theorem lawProveMatrix.over : Rows.fnExactProveMatrixRow.holds Tryz.pinned (OpenSpec.ofChange Rows.fnExactProveMatrixSpec) :=
  OpenClaim.holds_of_wide 3 Tryz.f3 rfl rfl rfl rfl rfl rfl rfl ⟨rfl, rfl, rfl, rfl, rfl⟩ rfl rfl rfl rfl rfl lawProveMatrix.named Tryz.func3 lawProveMatrix.closed
    lawProveMatrix.inst lawProveMatrix.wrap (fun os started H enc _ => lawProveMatrix.lifted os started H enc)

theorem lawProveMatrix.proved : Rows.FnExactProveMatrixSaid := lawProveMatrix.over
#print axioms lawProveMatrix.proved
end Go.Proofs.YtnhdohjlbchniaaGreat
