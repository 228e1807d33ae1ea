/- Contracts for proveMatrix, the program's. (Printed by tools/gen_pv2.py.) -/
import Derived.Test.YtnhdohjlbchniaaGreatProg
import Derived.Test.YtnhdohjlbchniaaGreatPv1
import Derived.Deep.CutRange
namespace Go.Proofs.YtnhdohjlbchniaaGreat
open Go.RowKit
set_option linter.unusedVariables false
set_option linter.unusedSimpArgs false
/-- The parts of the coins. -/
def pvS (cs : List Int) (n : Nat) : List Int := (cs.drop 0).take n
def pvT (cs : List Int) (n : Nat) : List Int := (cs.drop n).take n
def pvW (cs : List Int) (n : Nat) : List Int := (cs.drop (n + n + 4)).take n
def pvX (cs : List Int) (n : Nat) : List Int := (cs.drop (n + n + 4 + n)).take n
/-- How the parts of a proof hang together. -/
def PvEq (p q g key H : Int) (hs : List Int) (a : List (Int × Int)) (perm rs cs : List Int) (n : Nat) (co cn cm : List Int) (z : Int) (rp : List Int) : Prop :=
  ∃ (ou : List (Int × Int)) (es own : List Int) (y : Int), pmO p q g key a perm rs n = ou ∧ colL p q g perm (pvS cs n) hs n = co ∧ vmE p q g key a ou co = es ∧ applyL perm es = own ∧ pmN p q g H own (pvT cs n) n = cn ∧ pmY q own (pvT cs n) n = y ∧
    pmK p q g key H hs (ou.map Prod.fst) (ou.map Prod.snd) cn (cs.getD (n + n) 0) (cs.getD (n + n + 1) 0) (cs.getD (n + n + 2) 0) (cs.getD (n + n + 3) 0) (pvW cs n) (pvX cs n) n n = cm ∧ vmZ p q g key a ou co cn cm = z ∧
    pmR q z (cs.getD (n + n) 0) (cs.getD (n + n + 1) 0) (cs.getD (n + n + 2) 0) (cs.getD (n + n + 3) 0) y (pvS cs n) es rs own (pvW cs n) (pvT cs n) (pvX cs n) n n n = rp
theorem PvEq.one {p q g key H : Int} {hs : List Int} {a : List (Int × Int)} {perm rs cs : List Int} {n : Nat} {co cn cm co' cn' cm' : List Int} {z z' : Int} {rp rp' : List Int} (h : PvEq p q g key H hs a perm rs cs n co cn cm z rp) (h' : PvEq p q g key H hs a perm rs cs n co' cn' cm' z' rp') : co = co' ∧ cn = cn' ∧ cm = cm' ∧ z = z' ∧ rp = rp' := by
  obtain ⟨ou, es, own, y, h1, h2, h3, h4, h5, h6, h7, h8, h9⟩ := h
  obtain ⟨ou', es', own', y', g1, g2, g3, g4, g5, g6, g7, g8, g9⟩ := h'
  subst h1 h2 h3 h4 h5 h6 h7 h8 h9
  subst g1 g2 g3 g4 g5 g6 g7 g8 g9
  exact ⟨rfl, rfl, rfl, rfl, rfl⟩
/-- What proving answers: the parts of the proof, each in memory of its own. -/
def PvPost (p q g key H : Int) (hs : List Int) (a : List (Int × Int)) (perm rs cs : List Int) (n : Nat) (F : Value → Ending) (w : World) (en : Ending) (w' : World) : Prop :=
  ∃ (C1 : Option Addr) (e1 : Nat) (C2 : Option Addr) (e2 : Nat) (C3 : Option Addr) (e3 : Nat) (C4 : Option Addr) (e4 : Nat) (C5 : Option Addr) (e5 : Nat) (co cn cm : List Int) (z : Int) (rp : List Int),
    en = F (.agg #[.slice C1 n e1, .slice C2 n e2, .slice C3 (5 + n) e3, .slice C4 1 e4, .slice C5 (4 + n + n) e5]) ∧ PvEq p q g key H hs a perm rs cs n co cn cm z rp ∧
    OwnL w' w.heap.size [(C1, n, e1), (C2, n, e2), (C3, 5 + n, e3), (C4, 1, e4), (C5, 4 + n + n, e5)] [co, cn, cm, [z], rp] ∧ Ext w w'
theorem tk_next {w : World} {a : Addr} {n c o : Nat} {l : List Int} (h : SlI w (some a) n c (l.drop o)) (k : Nat) {o' : Nat} (ho : o + k = o') (hk : k ≤ n) : ∃ a' n' c', tkA a c k = a' ∧ n - k = n' ∧ c - k = c' ∧ SlI w (some a') n' c' (l.drop o') := by
  refine ⟨_, _, _, rfl, rfl, rfl, ?_, ?_, ?_, ?_⟩
  · have h9 := RdI.drop (cap := c) h.rd k (by rw [h.len]; exact h.cap)
    rw [List.drop_drop, ho] at h9
    unfold tkA
    by_cases e : c = k
    · rw [if_pos e] at h9 ⊢; exact h9
    · rw [if_neg e] at h9 ⊢; exact h9
  · rw [← ho, ← List.drop_drop, List.length_drop, h.len]
  · have := h.cap; omega
  · have := h.max; omega
theorem tk_cell {w : World} {a : Addr} {n c o : Nat} {l : List Int} (h : SlI w (some a) n c (l.drop o)) (h1 : 1 ≤ n) : ∃ x, l.getD o 0 = x ∧ x ∈ l ∧ w.cell? a = some (.int .i64 x) := by
  have hl := h.len
  rw [List.length_drop] at hl
  have ho : o < l.length := by omega
  obtain ⟨ad, hA, h8⟩ := h.rd.at_ (k := 0) (by rw [h.len]; omega)
  injection hA with hA
  subst hA
  refine ⟨_, rfl, ?_, ?_⟩
  · rw [getD_lt ho]; exact List.getElem_mem _
  · rw [getD_lt ho]
    rw [show a.add 0 = a from rfl] at h8
    rw [h8, List.getElem_drop]
    rfl
theorem tk_part {w : World} {a : Addr} {m c o n : Nat} {l : List Int} (h : SlI w (some a) m c (l.drop o)) (hn : n ≤ m) : RdI w (some a) ((l.drop o).take n) ∧ ((l.drop o).take n).length = n ∧ ∀ x ∈ (l.drop o).take n, x ∈ l := by
  refine ⟨h.rd.take n, ?_, fun x hx => List.mem_of_mem_drop (List.mem_of_mem_take hx)⟩
  rw [List.length_take, h.len]
  omega
theorem Only.addHigh {w w' w'' : World} {fp fp' : List Nat} (h : Only fp w w') (k : Only fp' w' w'') (hf : High w.heap.size fp') : Only fp w w'' :=
  ⟨k.os.trans h.os, k.tape.trans h.tape, k.output.trans h.output, Nat.le_trans h.size k.size, fun i hi hn =>
    (k.block i (Nat.lt_of_lt_of_le hi h.size) (fun e => by have := hf i e; omega)).trans (h.block i hi hn)⟩
theorem Only.addExt {w w' w'' : World} {fp : List Nat} (h : Only fp w w') (k : Ext w' w'') : Only fp w w'' := h.thenOnly (k.toOnly fp)
theorem own_five {w : World} {base n1 n2 n3 n4 n5 c1 c2 c3 c4 c5 s1 s2 s3 s4 : Nat} {A1 A2 A3 A4 A5 : Option Addr} {l1 l2 l3 l4 l5 : List Int} (h1 : OwnI w base 3 A1 n1 c1 l1) (h2 : OwnI w base 3 A2 n2 c2 l2) (h3 : OwnI w base 3 A3 n3 c3 l3) (h4 : OwnI w base 3 A4 n4 c4 l4) (h5 : OwnI w base 3 A5 n5 c5 l5)
    (L1 : Low (fpI A1) s1) (G2 : High s1 (fpI A2)) (L2 : Low (fpI A2) s2) (G3 : High s2 (fpI A3)) (L3 : Low (fpI A3) s3) (G4 : High s3 (fpI A4)) (L4 : Low (fpI A4) s4) (G5 : High s4 (fpI A5)) (z1 : s1 ≤ s2) (z2 : s2 ≤ s3) (z3 : s3 ≤ s4) :
    OwnL w base [(A1, n1, c1), (A2, n2, c2), (A3, n3, c3), (A4, n4, c4), (A5, n5, c5)] [l1, l2, l3, l4, l5] := by
  refine OwnL.cons h1 (OwnL.cons h2 (OwnL.cons h3 (OwnL.cons h4 (OwnL.one h5) ?_) ?_) ?_) ?_
  all_goals
    intro b hb hb'
    simp only [rowsFp, List.flatMap_cons, List.flatMap_nil, List.append_nil, List.mem_append] at hb'
  · have := L4 b hb; have := G5 b hb'; omega
  · have := L3 b hb
    rcases hb' with h | h
    · have := G4 b h; omega
    · have := G5 b h; omega
  · have := L2 b hb
    rcases hb' with h | h | h
    · have := G3 b h; omega
    · have := G4 b h; omega
    · have := G5 b h; omega
  · have := L1 b hb
    rcases hb' with h | h | h | h
    · have := G2 b h; omega
    · have := G3 b h; omega
    · have := G4 b h; omega
    · have := G5 b h; omega
theorem only_five (w : World) (g : Nat) (v0 v1 v2 v3 v4 : Value) : Only [g] w (((((w.setCell ⟨g, 0, none⟩ v0).setCell ⟨g, 1, none⟩ v1).setCell ⟨g, 2, none⟩ v2).setCell ⟨g, 3, none⟩ v3).setCell ⟨g, 4, none⟩ v4) :=
  (((((Only.refl _ _).setCell (p := ⟨g, 0, none⟩) (by simp) _).setCell (p := ⟨g, 1, none⟩) (by simp) _).setCell (p := ⟨g, 2, none⟩) (by simp) _).setCell (p := ⟨g, 3, none⟩) (by simp) _).setCell (p := ⟨g, 4, none⟩) (by simp) _
/-- A block of slices holds no ints. -/
theorem sl5_no {A B C D E : Option Addr} {n c m d k e i f j h : Nat} (t : Nat) (z : Int) : (#[.slice A n c, .slice B m d, .slice C k e, .slice D i f, .slice E j h] : Array Value)[t]? ≠ some (Value.int .i64 z) := by
  intro hh
  match t with
  | 0 => simp at hh
  | 1 => simp at hh
  | 2 => simp at hh
  | 3 => simp at hh
  | 4 => simp at hh
  | t + 5 => simp at hh
theorem col_rg {p q : Int} (h : GrpB p q) (g : Int) (perm ss : List Int) {hs : List Int} (bh : ∀ y ∈ hs, 0 ≤ y ∧ y ≤ 3000000000) (n : Nat) : ∀ x ∈ colL p q g perm ss hs n, 0 ≤ x ∧ x ≤ 3000000000 := by
  induction n with
  | zero => intro x hx; simp only [colL, List.mem_replicate] at hx; omega
  | succ n ih =>
    intro x hx
    simp only [colL] at hx
    rcases List.mem_or_eq_of_mem_set hx with hx | hx
    · exact ih x hx
    · subst hx
      have h9 : 0 ≤ hs.getD n 0 := by
        rw [List.getD_eq_getElem?_getD]
        cases hq : hs[n]? with
        | none => simp
        | some y => exact (bh y (List.mem_of_getElem? hq)).1
      have := gmul2_rg h (gpw_rg p q g (ss.getD (perm.getD n 0).toNat 0) h).1 h9
      unfold colV
      omega
theorem app_rg {q : Int} (hq : 1 ≤ q) (perm : List Int) {es : List Int} (h : ∀ x ∈ es, 0 ≤ x ∧ x ≤ q - 1) : ∀ x ∈ applyL perm es, 0 ≤ x ∧ x ≤ q - 1 := fun x hx => by
  obtain ⟨k, _, rfl⟩ := List.mem_map.1 hx
  rw [List.getD_eq_getElem?_getD]
  cases hq : es[k.toNat]? with
  | none => simp; omega
  | some y => exact h y (List.mem_of_getElem? hq)
theorem chs_K {p q g : Int} {l : List Int} (hG : grpB p q g = true) (h : chN 4 colS l = true) : chN 4 colS l = true := h
theorem OwnC.keepBlkC {w : World} {g base n c : Nat} {t : TypeId} {cs : Array Value} {A : Option Addr} {l : List (Int × Int)} (h : OwnC w base 54 A n c l) (hB : Blk w g t cs) (hne : t ≠ 54) {w' : World} (ho : Only [g] w w') : OwnC w' base 54 A n c l :=
  h.only ho fun b hb hb' => hB.off_own (s := 2) (xs := cs2 l) h hne (by simp at hb'; subst hb'; exact hb)
theorem blk_add (a : Addr) (k : Nat) : (a.add k).block = a.block := by
  unfold Addr.add
  split <;> rfl
theorem OwnL.keepBlk5 {w : World} {g base : Nat} {t : TypeId} {cs : Array Value} {rs : List (Option Addr × Nat × Nat)} {ls : List (List Int)} (h : OwnL w base rs ls) (hB : Blk w g t cs) (hne : t ≠ 3) {w' : World} (ho : Only [g] w w') : OwnL w' base rs ls :=
  ⟨h.len, fun i hi hi' => (h.own i hi hi').keepBlk hB hne ho, h.nd⟩
set_option maxRecDepth 100000 in
set_option maxHeartbeats 16000000 in
theorem iProve_any (p q g key H : Int) (AH : Option Addr) (cH : Nat) (hs : List Int) (A : Option Addr) (n c : Nat) (a : List (Int × Int)) (P : Option Addr) (d : Nat) (perm : List Int) (R : Option Addr) (e : Nat) (rs : List Int) (b0 : Addr) (m0 f0 : Nat) (cs : List Int) (w : World) (hG : grpB p q g = true) (hk : elB p q key = true) (hH : elB p q H = true) (rh : RdI w AH hs) (lh : hs.length = n) (eh : hs.all (elB p q) = true) (ha : RdC w A a) (hla : a.length = n) (am : amB p q a = true) (hp : RdI w P perm) (hlp : perm.length = n) (hpR : allR perm 0 (n - 1) = true) (hr : RdI w R rs) (hlr : rs.length = n) (br : ∀ x ∈ rs, 0 ≤ x ∧ x ≤ q - 1) (hc : SlI w (some b0) m0 f0 cs) (hm0 : m0 = 4 * n + 4) (bc : ∀ x ∈ cs, 0 ≤ x ∧ x ≤ q - 1) :
    Calls Tryz.prog 26 #[.agg #[.int .i64 p, .int .i64 q, .int .i64 g], .agg #[.int .i64 H, .slice AH n cH], .int .i64 key, .slice A n c, .slice P n d, .slice R n e, .slice (some b0) m0 f0] w fun en w' => PvPost p q g key H hs a perm rs cs n (fun v => .returned (.tuple #[v, .bool true])) w en w' := by
  have hI := grpB_in hG
  have hB := hI.bd
  have hp9 := hI.p9
  have hq2 := hI.q2
  have hqp := hI.qp
  have hgp := hI.gp
  have hg2 := hI.g2
  obtain ⟨an1, an12, aci⟩ := amB_in am
  rw [hla] at an1 an12
  have HA := Lib.hid hla
  have HH := Lib.hid lh
  have HPL := Lib.hid hlp
  have HRL := Lib.hid hlr
  have HG := Lib.hid hG
  have HM0 := Lib.hid hm0
  have hHb := el_bd hp9 hH
  have hkb := el_bd hp9 hk
  have hgb : 0 ≤ g ∧ g ≤ 3000000000 := by omega
  have hqb : q ≤ 2000000000 := by omega
  have BHS := Lib.hid (els_bd hp9 eh)
  have HPR := Lib.hid hpR
  have BR := Lib.hid br
  have BC := Lib.hid bc
  have ba : ∀ x ∈ a, (0 ≤ x.1 ∧ x.1 < p) ∧ 0 ≤ x.2 ∧ x.2 < p := fun x hx => by
    have h9 := List.all_eq_true.1 aci x hx
    unfold ciB at h9
    rw [Bool.and_eq_true] at h9
    have h1 := (elB_iff.1 h9.1).1
    have h2 := (elB_iff.1 h9.2).1
    exact ⟨⟨by omega, by omega⟩, by omega, by omega⟩
  have BA := Lib.hid ba
  have ba2 : ∀ x ∈ a, (0 ≤ x.1 ∧ x.1 ≤ 3000000000) ∧ 0 ≤ x.2 ∧ x.2 ≤ 3000000000 := fun x hx => by
    have h9 := ba x hx
    exact ⟨⟨by omega, by omega⟩, by omega, by omega⟩
  have BA2 := Lib.hid ba2
  clear hG hk hH lh eh hla am aci hlp hpR hlr br bc ba ba2
  have hfm := hc.max
  have hf0 := hc.cap
  unfold maxLen at hfm
  have T0 : SlI w (some b0) m0 f0 (cs.drop 0) := by rw [List.drop_zero]; exact hc
  obtain ⟨b1, m1, f1, hb1, hm1, hf1, T1⟩ := tk_next (o' := n) T0 n (by omega) (by omega)
  have hm1_ : m1 + n = m0 := by omega
  obtain ⟨b2, m2, f2, hb2, hm2, hf2, T2⟩ := tk_next (o' := n + n) T1 n (by omega) (by omega)
  have hm2_ : m2 + n = m1 := by omega
  obtain ⟨b3, m3, f3, hb3, hm3, hf3, T3⟩ := tk_next (o' := n + n + 1) T2 1 (by omega) (by omega)
  have hm3_ : m3 + 1 = m2 := by omega
  obtain ⟨b4, m4, f4, hb4, hm4, hf4, T4⟩ := tk_next (o' := n + n + 2) T3 1 (by omega) (by omega)
  have hm4_ : m4 + 1 = m3 := by omega
  obtain ⟨b5, m5, f5, hb5, hm5, hf5, T5⟩ := tk_next (o' := n + n + 3) T4 1 (by omega) (by omega)
  have hm5_ : m5 + 1 = m4 := by omega
  obtain ⟨b6, m6, f6, hb6, hm6, hf6, T6⟩ := tk_next (o' := n + n + 4) T5 1 (by omega) (by omega)
  have hm6_ : m6 + 1 = m5 := by omega
  obtain ⟨b7, m7, f7, hb7, hm7, hf7, T7⟩ := tk_next (o' := n + n + 4 + n) T6 n (by omega) (by omega)
  have hm7_ : m7 + n = m6 := by omega
  obtain ⟨b8, m8, f8, hb8, hm8, hf8, T8⟩ := tk_next (o' := n + n + 4 + n + n) T7 n (by omega) (by omega)
  have hm8_ : m8 + n = m7 := by omega
  obtain ⟨rS, lS, iS⟩ := tk_part (n := n) T0 (by omega)
  obtain ⟨zS, hzS⟩ : ∃ l, pvS cs n = l := ⟨_, rfl⟩
  rw [show (cs.drop (0)).take n = zS from hzS] at rS lS iS
  have bS : ∀ x ∈ zS, 0 ≤ x ∧ x ≤ q - 1 := fun x hx => BC.out x (iS x hx)
  have HSE := Lib.hid hzS
  have HLS := Lib.hid lS
  have BS := Lib.hid bS
  clear hzS lS iS bS
  obtain ⟨rT, lT, iT⟩ := tk_part (n := n) T1 (by omega)
  obtain ⟨zT, hzT⟩ : ∃ l, pvT cs n = l := ⟨_, rfl⟩
  rw [show (cs.drop (n)).take n = zT from hzT] at rT lT iT
  have bT : ∀ x ∈ zT, 0 ≤ x ∧ x ≤ q - 1 := fun x hx => BC.out x (iT x hx)
  have HTE := Lib.hid hzT
  have HLT := Lib.hid lT
  have BT := Lib.hid bT
  clear hzT lT iT bT
  obtain ⟨xA, hxA, ixA, cxA⟩ := tk_cell T2 (by omega)
  have bxA := BC.out _ ixA
  have HxA := Lib.hid hxA
  clear ixA hxA
  obtain ⟨xB, hxB, ixB, cxB⟩ := tk_cell T3 (by omega)
  have bxB := BC.out _ ixB
  have HxB := Lib.hid hxB
  clear ixB hxB
  obtain ⟨xD, hxD, ixD, cxD⟩ := tk_cell T4 (by omega)
  have bxD := BC.out _ ixD
  have HxD := Lib.hid hxD
  clear ixD hxD
  obtain ⟨xF, hxF, ixF, cxF⟩ := tk_cell T5 (by omega)
  have bxF := BC.out _ ixF
  have HxF := Lib.hid hxF
  clear ixF hxF
  obtain ⟨rW, lW, iW⟩ := tk_part (n := n) T6 (by omega)
  obtain ⟨zW, hzW⟩ : ∃ l, pvW cs n = l := ⟨_, rfl⟩
  rw [show (cs.drop (n + n + 4)).take n = zW from hzW] at rW lW iW
  have bW : ∀ x ∈ zW, 0 ≤ x ∧ x ≤ q - 1 := fun x hx => BC.out x (iW x hx)
  have HWE := Lib.hid hzW
  have HLW := Lib.hid lW
  have BW := Lib.hid bW
  clear hzW lW iW bW
  obtain ⟨rX, lX, iX⟩ := tk_part (n := n) T7 (by omega)
  obtain ⟨zX, hzX⟩ : ∃ l, pvX cs n = l := ⟨_, rfl⟩
  rw [show (cs.drop (n + n + 4 + n)).take n = zX from hzX] at rX lX iX
  have bX : ∀ x ∈ zX, 0 ≤ x ∧ x ≤ q - 1 := fun x hx => BC.out x (iX x hx)
  have HXE := Lib.hid hzX
  have HLX := Lib.hid lX
  have BX := Lib.hid bX
  clear hzX lX iX bX
  have K1 : Hid (∀ V gk, Blk V gk 90 #[.slice (some b0) m0 f0] → Calls Tryz.prog 58 #[.pointer (some ⟨gk, 0, none⟩), .int .i64 n] V fun e w' => e = .returned (.slice (some b0) n f0) ∧ Blk w' gk 90 #[.slice (some b1) m1 f1] ∧ Only [gk] V w') := fun V gk hV => by
    have h9 := take_any gk b0 m0 f0 n V hV (by omega) T0.cap T0.max
    rw [hb1, hm1, hf1] at h9
    exact h9
  have K2 : Hid (∀ V gk, Blk V gk 90 #[.slice (some b1) m1 f1] → Calls Tryz.prog 58 #[.pointer (some ⟨gk, 0, none⟩), .int .i64 n] V fun e w' => e = .returned (.slice (some b1) n f1) ∧ Blk w' gk 90 #[.slice (some b2) m2 f2] ∧ Only [gk] V w') := fun V gk hV => by
    have h9 := take_any gk b1 m1 f1 n V hV (by omega) T1.cap T1.max
    rw [hb2, hm2, hf2] at h9
    exact h9
  have K3 : Hid (∀ V gk, Ext w V → Blk V gk 90 #[.slice (some b2) m2 f2] → Calls Tryz.prog 59 #[.pointer (some ⟨gk, 0, none⟩)] V fun e w' => e = .returned (.int .i64 xA) ∧ Blk w' gk 90 #[.slice (some b3) m3 f3] ∧ Only [gk] V w') := fun V gk hE hV => by
    have h9 := one_any gk b2 m2 f2 xA V hV (by omega) T2.cap T2.max (hE.cell cxA)
    rw [hb3, hm3, hf3] at h9
    exact h9
  have K4 : Hid (∀ V gk, Ext w V → Blk V gk 90 #[.slice (some b3) m3 f3] → Calls Tryz.prog 59 #[.pointer (some ⟨gk, 0, none⟩)] V fun e w' => e = .returned (.int .i64 xB) ∧ Blk w' gk 90 #[.slice (some b4) m4 f4] ∧ Only [gk] V w') := fun V gk hE hV => by
    have h9 := one_any gk b3 m3 f3 xB V hV (by omega) T3.cap T3.max (hE.cell cxB)
    rw [hb4, hm4, hf4] at h9
    exact h9
  have K5 : Hid (∀ V gk, Ext w V → Blk V gk 90 #[.slice (some b4) m4 f4] → Calls Tryz.prog 59 #[.pointer (some ⟨gk, 0, none⟩)] V fun e w' => e = .returned (.int .i64 xD) ∧ Blk w' gk 90 #[.slice (some b5) m5 f5] ∧ Only [gk] V w') := fun V gk hE hV => by
    have h9 := one_any gk b4 m4 f4 xD V hV (by omega) T4.cap T4.max (hE.cell cxD)
    rw [hb5, hm5, hf5] at h9
    exact h9
  have K6 : Hid (∀ V gk, Ext w V → Blk V gk 90 #[.slice (some b5) m5 f5] → Calls Tryz.prog 59 #[.pointer (some ⟨gk, 0, none⟩)] V fun e w' => e = .returned (.int .i64 xF) ∧ Blk w' gk 90 #[.slice (some b6) m6 f6] ∧ Only [gk] V w') := fun V gk hE hV => by
    have h9 := one_any gk b5 m5 f5 xF V hV (by omega) T5.cap T5.max (hE.cell cxF)
    rw [hb6, hm6, hf6] at h9
    exact h9
  have K7 : Hid (∀ V gk, Blk V gk 90 #[.slice (some b6) m6 f6] → Calls Tryz.prog 58 #[.pointer (some ⟨gk, 0, none⟩), .int .i64 n] V fun e w' => e = .returned (.slice (some b6) n f6) ∧ Blk w' gk 90 #[.slice (some b7) m7 f7] ∧ Only [gk] V w') := fun V gk hV => by
    have h9 := take_any gk b6 m6 f6 n V hV (by omega) T6.cap T6.max
    rw [hb7, hm7, hf7] at h9
    exact h9
  have K8 : Hid (∀ V gk, Blk V gk 90 #[.slice (some b7) m7 f7] → Calls Tryz.prog 58 #[.pointer (some ⟨gk, 0, none⟩), .int .i64 n] V fun e w' => e = .returned (.slice (some b7) n f7) ∧ Blk w' gk 90 #[.slice (some b8) m8 f8] ∧ Only [gk] V w') := fun V gk hV => by
    have h9 := take_any gk b7 m7 f7 n V hV (by omega) T7.cap T7.max
    rw [hb8, hm8, hf8] at h9
    exact h9
  clear hb1 hm1 hf1 hm1_ T1 hb2 hm2 hf2 hm2_ T2 hb3 hm3 hf3 hm3_ T3 hb4 hm4 hf4 hm4_ T4 hb5 hm5 hf5 hm5_ T5 hb6 hm6 hf6 hm6_ T6 hb7 hm7 hf7 hm7_ T7 hb8 hm8 hf8 hm8_ T8 T0 hm0
  clear cxA cxB cxD cxF
  have E := (((((Ext.refl w).alloc (.cells #[.int .i64 p, .int .i64 q, .int .i64 g] 33)).alloc (.cells #[.int .i64 H, .slice AH n cH] 49)).alloc (.cells #[.slice none 0 0, .slice none 0 0, .slice none 0 0, .slice none 0 0, .slice none 0 0] 30)).alloc (.cells #[.slice (some b0) m0 f0] 90))
  have B0 := ((((Blk.new w 33 #[.int .i64 p, .int .i64 q, .int .i64 g]).alloc (.cells #[.int .i64 H, .slice AH n cH] 49)).alloc (.cells #[.slice none 0 0, .slice none 0 0, .slice none 0 0, .slice none 0 0, .slice none 0 0] 30)).alloc (.cells #[.slice (some b0) m0 f0] 90))
  have B1 := (((Blk.new (w.alloc (.cells #[.int .i64 p, .int .i64 q, .int .i64 g] 33)) 49 #[.int .i64 H, .slice AH n cH]).alloc (.cells #[.slice none 0 0, .slice none 0 0, .slice none 0 0, .slice none 0 0, .slice none 0 0] 30)).alloc (.cells #[.slice (some b0) m0 f0] 90))
  have B2 := ((Blk.new ((w.alloc (.cells #[.int .i64 p, .int .i64 q, .int .i64 g] 33)).alloc (.cells #[.int .i64 H, .slice AH n cH] 49)) 30 #[.slice none 0 0, .slice none 0 0, .slice none 0 0, .slice none 0 0, .slice none 0 0]).alloc (.cells #[.slice (some b0) m0 f0] 90))
  have B3 := (Blk.new (((w.alloc (.cells #[.int .i64 p, .int .i64 q, .int .i64 g] 33)).alloc (.cells #[.int .i64 H, .slice AH n cH] 49)).alloc (.cells #[.slice none 0 0, .slice none 0 0, .slice none 0 0, .slice none 0 0, .slice none 0 0] 30)) 90 #[.slice (some b0) m0 f0])
  simp only [World.size_alloc] at B1 B2 B3
  go_enter Tryz.func26, Tryz.ntmps26
  go_wp2_with fail
  refine (K1.out _ _ B3).mono ?_
  rintro en w1 ⟨rfl, B3n, ho⟩
  replace E := E.only1 (by omega) ho
  replace B0 := B0.only ho (by first | (simp; done) | (simp; omega))
  replace B1 := B1.only ho (by first | (simp; done) | (simp; omega))
  replace B2 := B2.only ho (by first | (simp; done) | (simp; omega))
  clear B3 ho
  have B3 := B3n
  clear B3n
  go_wp2_with fail
  refine (K2.out _ _ B3).mono ?_
  rintro en w2 ⟨rfl, B3n, ho⟩
  replace E := E.only1 (by omega) ho
  replace B0 := B0.only ho (by first | (simp; done) | (simp; omega))
  replace B1 := B1.only ho (by first | (simp; done) | (simp; omega))
  replace B2 := B2.only ho (by first | (simp; done) | (simp; omega))
  clear B3 ho
  have B3 := B3n
  clear B3n
  go_wp2_with fail
  refine (K3.out _ _ E B3).mono ?_
  rintro en w3 ⟨rfl, B3n, ho⟩
  replace E := E.only1 (by omega) ho
  replace B0 := B0.only ho (by first | (simp; done) | (simp; omega))
  replace B1 := B1.only ho (by first | (simp; done) | (simp; omega))
  replace B2 := B2.only ho (by first | (simp; done) | (simp; omega))
  clear B3 ho
  have B3 := B3n
  clear B3n
  go_wp2_with fail
  refine (K4.out _ _ E B3).mono ?_
  rintro en w4 ⟨rfl, B3n, ho⟩
  replace E := E.only1 (by omega) ho
  replace B0 := B0.only ho (by first | (simp; done) | (simp; omega))
  replace B1 := B1.only ho (by first | (simp; done) | (simp; omega))
  replace B2 := B2.only ho (by first | (simp; done) | (simp; omega))
  clear B3 ho
  have B3 := B3n
  clear B3n
  go_wp2_with fail
  refine (K5.out _ _ E B3).mono ?_
  rintro en w5 ⟨rfl, B3n, ho⟩
  replace E := E.only1 (by omega) ho
  replace B0 := B0.only ho (by first | (simp; done) | (simp; omega))
  replace B1 := B1.only ho (by first | (simp; done) | (simp; omega))
  replace B2 := B2.only ho (by first | (simp; done) | (simp; omega))
  clear B3 ho
  have B3 := B3n
  clear B3n
  go_wp2_with fail
  refine (K6.out _ _ E B3).mono ?_
  rintro en w6 ⟨rfl, B3n, ho⟩
  replace E := E.only1 (by omega) ho
  replace B0 := B0.only ho (by first | (simp; done) | (simp; omega))
  replace B1 := B1.only ho (by first | (simp; done) | (simp; omega))
  replace B2 := B2.only ho (by first | (simp; done) | (simp; omega))
  clear B3 ho
  have B3 := B3n
  clear B3n
  go_wp2_with fail
  refine (K7.out _ _ B3).mono ?_
  rintro en w7 ⟨rfl, B3n, ho⟩
  replace E := E.only1 (by omega) ho
  replace B0 := B0.only ho (by first | (simp; done) | (simp; omega))
  replace B1 := B1.only ho (by first | (simp; done) | (simp; omega))
  replace B2 := B2.only ho (by first | (simp; done) | (simp; omega))
  clear B3 ho
  have B3 := B3n
  clear B3n
  go_wp2_with fail
  refine (K8.out _ _ B3).mono ?_
  rintro en w8 ⟨rfl, B3n, ho⟩
  replace E := E.only1 (by omega) ho
  replace B0 := B0.only ho (by first | (simp; done) | (simp; omega))
  replace B1 := B1.only ho (by first | (simp; done) | (simp; omega))
  replace B2 := B2.only ho (by first | (simp; done) | (simp; omega))
  clear B3 ho
  have B3 := B3n
  clear B3n
  clear B3 K1 K2 K3 K4 K5 K6 K7 K8
  have bS4 : Hid (∀ x ∈ zS, 0 ≤ x ∧ x ≤ 4000000000) := fun x hx => by have := BS.out x hx; omega
  have bT4 : Hid (∀ x ∈ zT, 0 ≤ x ∧ x ≤ 4000000000) := fun x hx => by have := BT.out x hx; omega
  have bR4 : Hid (∀ x ∈ rs, 0 ≤ x ∧ x ≤ 4000000000) := fun x hx => by have := BR.out x hx; omega
  have CC0 := B0.cells
  go_wp2_with fail
  refine (mix_any p q g key A n c a P n d perm R e rs _ hB hgb hkb (ha.ext E) HA.out (by omega) BA.out (hp.ext E) HPL.out (by omega) HPR.out (hr.ext E) HRL.out bR4.out).mono ?_
  rintro en v5 ⟨O, oc, rfl, hO, hb⟩
  clear CC0
  replace E := E.trans hb
  replace B0 := B0.ext hb
  replace B1 := B1.ext hb
  replace B2 := B2.ext hb
  clear hb
  obtain ⟨ou, hou⟩ : ∃ l, pmO p q g key a perm rs n = l := ⟨_, rfl⟩
  have hour := pmO_rg hB g key (a := a) (fun c hc => ⟨(BA2.out c hc).1.1, (BA2.out c hc).2.1⟩) perm rs n
  rw [hou] at hO hour
  have HOU := Lib.hid hou
  have hol := hO.len
  have HOL := Lib.hid hol
  have hour2 : ∀ c ∈ ou, (0 ≤ c.1 ∧ c.1 ≤ 3000000000) ∧ 0 ≤ c.2 ∧ c.2 ≤ 3000000000 := fun c hc => by
    have h9 := hour c hc
    exact ⟨⟨by omega, by omega⟩, by omega, by omega⟩
  have BOU := Lib.hid hour2
  have bof : ∀ x ∈ ou.map Prod.fst, 0 ≤ x ∧ x ≤ 3000000000 := fun x hx => by
    obtain ⟨c, hc, rfl⟩ := List.mem_map.1 hx
    exact (hour2 c hc).1
  have bos : ∀ x ∈ ou.map Prod.snd, 0 ≤ x ∧ x ≤ 3000000000 := fun x hx => by
    obtain ⟨c, hc, rfl⟩ := List.mem_map.1 hx
    exact (hour2 c hc).2
  have BOF := Lib.hid bof
  have BOS := Lib.hid bos
  clear hou hour hour2 hol bof bos
  have CC0 := B0.cells
  have CC1 := B1.cells
  go_wp2_with fail
  refine (columnCommits_any p q g H AH n cH hs P (some b0) n d f0 perm zS _ hB hgb (rh.ext E) HH.out (Nat.le_refl _) (by omega) BHS.out (hp.ext E) HPL.out (by omega) HPR.out (rS.ext E) HLS.out bS4.out).mono ?_
  rintro en v6 ⟨C1, e1, rfl, h1, hb⟩
  have hs1 := E.size
  clear CC0 CC1
  replace E := E.trans hb
  replace B0 := B0.ext hb
  replace B1 := B1.ext hb
  replace B2 := B2.ext hb
  replace hO := hO.ext hb
  clear hb
  obtain ⟨co, hco⟩ : ∃ l, colL p q g perm zS hs n = l := ⟨_, rfl⟩
  have hcor : ∀ x ∈ co, 0 ≤ x ∧ x ≤ 3000000000 := by rw [← hco]; exact col_rg hB g perm zS BHS.out n
  rw [hco] at h1
  have HCO := Lib.hid hco
  have BCO := Lib.hid hcor
  have hcl := h1.len
  have HCL := Lib.hid hcl
  clear hco hcor hcl
  replace h1 := h1.more hs1
  have L1 := h1.low
  have E6 := Ext.refl v6
  have E0 := E
  have B06 := B0
  have B16 := B1
  have hz6 := E.size
  have B2s := B2.lt
  have CC0 := B0.cells
  have CC1 := B1.cells
  go_wp2_with fail
  clear CC0 CC1
  have hb := (Ext.refl v6).alloc (.cells #[.slice C1 n e1, .slice none 0 0, .slice none 0 0, .slice none 0 0, .slice none 0 0] 30)
  have BP := Blk.new v6 30 #[.slice C1 n e1, .slice none 0 0, .slice none 0 0, .slice none 0 0, .slice none 0 0]
  replace E := E.trans hb
  replace B0 := B0.ext hb
  replace B1 := B1.ext hb
  replace B2 := B2.ext hb
  replace hO := hO.ext hb
  replace h1 := h1.ext hb
  replace E6 := E6.trans hb
  clear hb
  generalize hgp : v6.heap.size = gp at *
  generalize v6.alloc (.cells #[.slice C1 n e1, .slice none 0 0, .slice none 0 0, .slice none 0 0, .slice none 0 0] 30) = v7 at *
  have HGP := Lib.hid hgp
  have hgw : w.heap.size + 1 + 1 < gp := B2s
  refine (mixList_any key A n c O n oc C1 n e1 a ou co _ (ha.ext E) HA.out hO.rd HOL.out h1.rd HCL.out (by omega) (by omega) (by omega)).mono ?_
  rintro en v8 ⟨U, u, uc, rfl, hU, hb⟩
  replace E := E.trans hb
  replace B0 := B0.ext hb
  replace B1 := B1.ext hb
  replace B2 := B2.ext hb
  replace hO := hO.ext hb
  replace h1 := h1.ext hb
  replace BP := BP.ext hb
  replace E6 := E6.trans hb
  clear hb hgp
  have hul : u ≤ 100 := by have h9 := hU.len; rw [mlL_length, HA.out, HOL.out, HCL.out] at h9; omega
  have HCK := Lib.hid (pv_chs (mlL_rg hkb BA2.out BOU.out BCO.out) (by rw [HA.out]; exact an12) (by rw [HOL.out]; exact an12) (by rw [HCL.out]; exact an12))
  have CC0 := B0.cells
  go_wp2_with fail
  refine (challenges_any p q g colS U u uc (mlL key a ou co) n _ HG.out hU.rd hU.len (by omega) (by decide) (by omega)).mono ?_
  rintro en v9 ⟨D, dn, dc, hen, hD, hDl, hD9, hb⟩
  rw [chs_K HG.out HCK.out] at hen hD hDl
  simp only [if_true] at hD hDl
  clear CC0
  replace E := E.trans hb
  replace B0 := B0.ext hb
  replace B1 := B1.ext hb
  replace B2 := B2.ext hb
  replace hO := hO.ext hb
  replace h1 := h1.ext hb
  replace BP := BP.ext hb
  replace hU := hU.ext hb
  replace E6 := E6.trans hb
  clear hb hD9
  have HE : Hid (chsL p q g colS (mlL key a ou co) n = vmE p q g key a ou co) := by show _ = _; unfold vmE; rw [HA.out]
  have BE := Lib.hid (chs_bd HG.out colS (mlL key a ou co) n)
  rw [HE.out] at hD hDl BE
  obtain ⟨es, hes⟩ : ∃ l, vmE p q g key a ou co = l := ⟨_, rfl⟩
  have hel : es.length = n := by rw [← hes, ← HE.out, chsL_length]
  rw [hes] at hD hDl BE
  have HES := Lib.hid hes
  have HEL := Lib.hid hel
  have hdn : n = dn := by rw [← hDl, hel]
  subst hdn
  clear hes hel hDl HE
  subst hen
  go_wp2_with fail
  refine (at_any P D n d n dc perm es _ (hp.ext E) hD HPL.out HEL.out (by omega) (by unfold maxLen; omega) HPR.out).mono ?_
  rintro en v11 ⟨G, gc, rfl, hW, hb⟩
  replace E := E.trans hb
  replace B0 := B0.ext hb
  replace B1 := B1.ext hb
  replace B2 := B2.ext hb
  replace hO := hO.ext hb
  replace h1 := h1.ext hb
  replace BP := BP.ext hb
  replace hU := hU.ext hb
  replace hD := hD.ext hb
  replace E6 := E6.trans hb
  clear hb
  obtain ⟨own, how⟩ : ∃ l, applyL perm es = l := ⟨_, rfl⟩
  rw [how] at hW
  have HOW := Lib.hid how
  have hownr : ∀ x ∈ own, 0 ≤ x ∧ x ≤ q - 1 := by rw [← how]; exact app_rg (by omega) perm (fun x hx => by have := BE.out x hx; omega)
  have BOW := Lib.hid hownr
  have BOW4 : Hid (∀ x ∈ own, 0 ≤ x ∧ x ≤ 4000000000) := fun x hx => by have := hownr x hx; omega
  have hwl := hW.len
  have HWL := Lib.hid hwl
  clear how hownr hwl
  have CC0 := B0.cells
  have CC1 := B1.cells
  go_wp2_with fail
  refine (chain_any p q g H own zT G n gc (some b1) f1 _ hB hgb hHb hW.rd HWL.out (by omega) BOW4.out (rT.ext E) HLT.out bT4.out).mono ?_
  rintro en v12 ⟨C2, e2, rfl, h2, hb⟩
  have hs2 := E.size
  have hs26 := E6.size
  clear CC0 CC1
  replace E := E.trans hb
  replace B0 := B0.ext hb
  replace B1 := B1.ext hb
  replace B2 := B2.ext hb
  replace hO := hO.ext hb
  replace h1 := h1.ext hb
  replace BP := BP.ext hb
  replace hU := hU.ext hb
  replace hD := hD.ext hb
  replace hW := hW.ext hb
  replace E6 := E6.trans hb
  clear hb
  have G2 := h2.high.mono hs26
  replace h2 := h2.more hs2
  obtain ⟨cn, hcn⟩ : ∃ l, pmN p q g H own zT n = l := ⟨_, rfl⟩
  have hcnr : ∀ x ∈ cn, 0 ≤ x ∧ x ≤ 3000000000 := by rw [← hcn]; exact pmN_rg hB g hHb own zT n
  rw [hcn] at h2
  have HCN := Lib.hid hcn
  have BCN := Lib.hid hcnr
  have hnl := h2.len
  have HNL := Lib.hid hnl
  clear hcn hcnr hnl hs2 hs26
  have CP := BP.cells
  have FP := BP.frozen
  have ho : Only [gp] v12 (v12.setCell ⟨gp, 1, none⟩ (.slice C2 n e2)) := (Only.refl _ _).setCell (p := ⟨gp, 1, none⟩) (by simp) _
  have BPn := BP.set_ 1 (.slice C2 n e2)
  go_wp2
  clear CP FP
  replace E := E.only1 (by omega) ho
  replace E6 := E6.only1 (by rw [HGP.out]; exact Nat.le_refl _) ho
  replace B0 := B0.only ho (by first | (simp; done) | (simp; omega))
  replace B1 := B1.only ho (by first | (simp; done) | (simp; omega))
  replace B2 := B2.only ho (by first | (simp; done) | (simp; omega))
  replace hO := hO.keepBlkC BP (by decide) ho
  replace h1 := h1.keepBlk BP (by decide) ho
  replace h2 := h2.keepBlk BP (by decide) ho
  replace hU := hU.keepBlk BP (by decide) ho
  replace hW := hW.keepBlk BP (by decide) ho
  replace hD := hD.keepP BP sl5_no ho
  clear BP ho
  have BP : Blk (v12.setCell ⟨gp, 1, none⟩ (.slice C2 n e2)) gp 30 #[.slice C1 n e1, .slice C2 n e2, .slice none 0 0, .slice none 0 0, .slice none 0 0] := BPn
  clear BPn
  generalize v12.setCell ⟨gp, 1, none⟩ (.slice C2 n e2) = v13 at *
  go_loopw [32, 105] (fun y i wr => ∃ j : Nat, j ≤ n ∧ y = .int .i64 (pmY q own zT j) ∧ i = .int .i64 j ∧ Ext v13 wr) (fun _ i _ => n - (intOf i).toNat)
  case atStart => exact ⟨0, Nat.zero_le _, rfl, rfl, Ext.refl _⟩
  case round =>
    obtain ⟨j, hj, rfl, rfl, E2⟩ := hrel
    by_cases hlt : j < n
    · have hjo : j < own.length := by rw [HWL.out]; exact hlt
      have hjt : j < zT.length := by rw [HLT.out]; exact hlt
      obtain ⟨og, hGA, hoc⟩ := (hW.ext E2).rd.at_ hjo
      subst hGA
      obtain ⟨td, hTA, htc⟩ := (rT.ext (E.trans E2)).at_ hjt
      injection hTA with hTA
      subst hTA
      have r1 := BOW.out _ (List.getElem_mem hjo)
      have r2 := BT.out _ (List.getElem_mem hjt)
      have r3 := pmY_rg hq2 own zT j
      have HYS : Hid (pmY q own zT (j + 1) = (zT[j] + own[j] * pmY q own zT j) % q) := by show _ = _; rw [pmY, getD_lt hjo, getD_lt hjt]
      generalize own[j] = oj at *
      generalize zT[j] = tj at *
      generalize pmY q own zT j = y0 at *
      have r4 := mul_le4 hqb (a := oj) (b := y0) (q := q) (by omega) r3
      have wr1 : IntKind.i64.wrap (oj * y0) = oj * y0 := IntWalk.i64_in _ (by omega)
      have wr2 : IntKind.i64.wrap (tj + oj * y0) = tj + oj * y0 := IntWalk.i64_in _ (by omega)
      clear hjo hjt
      have hjn : (j : Int) < (n : Int) := by omega
      have hj0 : (0 : Int) ≤ (j : Int) := by omega
      have BG := B0.ext E2
      have hS : ∀ V, Ext wr V → V.cell? ⟨w.heap.size, 0, none⟩ = some (.int .i64 p) ∧ V.cell? ⟨w.heap.size, 1, none⟩ = some (.int .i64 q) ∧ V.cell? ⟨w.heap.size, 2, none⟩ = some (.int .i64 g) ∧ V.cell? (b1.add j) = some (.int .i64 tj) ∧ V.cell? (og.add j) = some (.int .i64 oj) := fun V hV => by
        have a0 := (BG.ext hV).cells
        exact ⟨a0 0, a0 1, a0 2, hV.cell htc, hV.cell hoc⟩
      go_upto_region 17 with (fail)
      as_aux_lemma =>
        refine wp_region_held_drew (S := fun V => V.cell? ⟨w.heap.size, 0, none⟩ = some (.int .i64 p) ∧ V.cell? ⟨w.heap.size, 1, none⟩ = some (.int .i64 q) ∧ V.cell? ⟨w.heap.size, 2, none⟩ = some (.int .i64 g) ∧ V.cell? (b1.add j) = some (.int .i64 tj) ∧ V.cell? (og.add j) = some (.int .i64 oj)) (by kernel_rfl) ?_ (fun hHeld => ?_)
        · exact hS _ (by repeat (first | with_reducible assumption | with_reducible exact Ext.refl _ | with_reducible apply Ext.alloc | with_reducible apply Ext.drew | with_reducible apply Ext.drewN))
        refine' wpAnyH_take (i := 0) (v := _) ?hi0 (by kernel_rfl) (by kernel_rfl) (by kernel_rfl) ?hQ0 ?hy0 (by assumption) ?_
        case hi0 => (simp only [List.getElem?_toArray, List.getElem?_cons_zero]; rfl)
        case hy0 => refine Or.inl ⟨by rfl, ?_⟩; intro w hSw; (try dsimp only at hSw); go_simp <;> with_reducible rfl
        case hQ0 => exact fun _ _ _ h => h
        try simp only [Act.put, List.setIfInBounds_toArray, List.set_cons_zero, List.set_cons_succ]
        refine' wpAnyH_take (i := 1) (v := _) ?hi1 (by kernel_rfl) (by kernel_rfl) (by kernel_rfl) ?hQ1 ?hy1 (by assumption) ?_
        case hi1 => (simp only [List.getElem?_toArray, List.getElem?_cons_succ, List.getElem?_cons_zero]; rfl)
        case hy1 => refine Or.inl ⟨by rfl, ?_⟩; intro w hSw; (try dsimp only at hSw); go_simp <;> with_reducible rfl
        case hQ1 => exact fun _ _ _ h => h
        try simp only [Act.put, List.setIfInBounds_toArray, List.set_cons_zero, List.set_cons_succ]
        refine' wpAnyH_take (i := 2) (v := _) ?hi2 (by kernel_rfl) (by kernel_rfl) (by kernel_rfl) ?hQ2 ?hy2 (by assumption) ?_
        case hi2 => (simp only [List.getElem?_toArray, List.getElem?_cons_succ, List.getElem?_cons_zero]; rfl)
        case hy2 => refine Or.inl ⟨by rfl, ?_⟩; intro w hSw; (try dsimp only at hSw); go_simp <;> with_reducible rfl
        case hQ2 => exact fun _ _ _ h => h
        try simp only [Act.put, List.setIfInBounds_toArray, List.set_cons_zero, List.set_cons_succ]
        refine' wpAnyH_take (i := 3) (v := _) ?hi3 (by kernel_rfl) (by kernel_rfl) (by kernel_rfl) ?hQ3 ?hy3 (by assumption) ?_
        case hi3 => (simp only [List.getElem?_toArray, List.getElem?_cons_succ, List.getElem?_cons_zero]; rfl)
        case hy3 => refine Or.inl ⟨by rfl, ?_⟩; intro w hSw; (try dsimp only at hSw); go_simp <;> with_reducible rfl
        case hQ3 => exact fun _ _ _ h => h
        try simp only [Act.put, List.setIfInBounds_toArray, List.set_cons_zero, List.set_cons_succ]
        refine' wpAnyH_take (i := 4) (v := _) ?hi4 (by kernel_rfl) (by kernel_rfl) (by kernel_rfl) ?hQ4 ?hy4 (by assumption) ?_
        case hi4 => (simp only [List.getElem?_toArray, List.getElem?_cons_succ, List.getElem?_cons_zero]; rfl)
        case hy4 => refine Or.inl ⟨by rfl, ?_⟩; intro w hSw; (try dsimp only at hSw); go_simp <;> with_reducible rfl
        case hQ4 => exact fun _ _ _ h => h
        try simp only [Act.put, List.setIfInBounds_toArray, List.set_cons_zero, List.set_cons_succ]
        refine' wpAnyH_take (i := 5) (v := _) ?hi5 (by kernel_rfl) (by kernel_rfl) (by kernel_rfl) ?hQ5 ?hy5 (by assumption) ?_
        case hi5 => (simp only [List.getElem?_toArray, List.getElem?_cons_succ, List.getElem?_cons_zero]; rfl)
        case hy5 => refine Or.inl ⟨by rfl, ?_⟩; intro w hSw; (try dsimp only at hSw); go_simp <;> with_reducible rfl
        case hQ5 => exact fun _ _ _ h => h
        try simp only [Act.put, List.setIfInBounds_toArray, List.set_cons_zero, List.set_cons_succ]
        refine' wpAnyH_take (i := 6) (v := _) ?hi6 (by kernel_rfl) (by kernel_rfl) (by kernel_rfl) ?hQ6 ?hy6 (by assumption) ?_
        case hi6 => (simp only [List.getElem?_toArray, List.getElem?_cons_succ, List.getElem?_cons_zero]; rfl)
        case hy6 => refine Or.inl ⟨by rfl, ?_⟩; intro w hSw; (try dsimp only at hSw); go_simp <;> with_reducible rfl
        case hQ6 => exact fun _ _ _ h => h
        try simp only [Act.put, List.setIfInBounds_toArray, List.set_cons_zero, List.set_cons_succ]
        refine' wpAnyH_take (i := 7) (v := _) ?hi7 (by kernel_rfl) (by kernel_rfl) (by kernel_rfl) ?hQ7 ?hy7 (by assumption) ?_
        case hi7 => (simp only [List.getElem?_toArray, List.getElem?_cons_succ, List.getElem?_cons_zero]; rfl)
        case hy7 => refine Or.inl ⟨by rfl, ?_⟩; intro w hSw; (try dsimp only at hSw); go_simp <;> with_reducible rfl
        case hQ7 => exact fun _ _ _ h => h
        try simp only [Act.put, List.setIfInBounds_toArray, List.set_cons_zero, List.set_cons_succ]
        refine' wpAnyH_take (i := 8) (v := _) ?hi8 (by kernel_rfl) (by kernel_rfl) (by kernel_rfl) ?hQ8 ?hy8 (by assumption) ?_
        case hi8 => (simp only [List.getElem?_toArray, List.getElem?_cons_succ, List.getElem?_cons_zero]; rfl)
        case hy8 => refine Or.inl ⟨by rfl, ?_⟩; intro w hSw; (try dsimp only at hSw); go_simp <;> with_reducible rfl
        case hQ8 => exact fun _ _ _ h => h
        try simp only [Act.put, List.setIfInBounds_toArray, List.set_cons_zero, List.set_cons_succ]
        refine' wpAnyH_take (i := 9) (v := _) ?hi9 (by kernel_rfl) (by kernel_rfl) (by kernel_rfl) ?hQ9 ?hy9 (by assumption) ?_
        case hi9 => (simp only [List.getElem?_toArray, List.getElem?_cons_succ, List.getElem?_cons_zero]; rfl)
        case hy9 => refine Or.inl ⟨by rfl, ?_⟩; intro w hSw; (try dsimp only at hSw); go_simp <;> with_reducible rfl
        case hQ9 => exact fun _ _ _ h => h
        try simp only [Act.put, List.setIfInBounds_toArray, List.set_cons_zero, List.set_cons_succ]
        refine' wpAnyH_take (i := 10) (v := _) ?hi10 (by kernel_rfl) (by kernel_rfl) (by kernel_rfl) ?hQ10 ?hy10 (by assumption) ?_
        case hi10 => (simp only [List.getElem?_toArray, List.getElem?_cons_succ, List.getElem?_cons_zero]; rfl)
        case hy10 => refine Or.inl ⟨by rfl, ?_⟩; intro w hSw; (try dsimp only at hSw); go_simp <;> with_reducible rfl
        case hQ10 => exact fun _ _ _ h => h
        try simp only [Act.put, List.setIfInBounds_toArray, List.set_cons_zero, List.set_cons_succ]
        refine' wpAnyH_take (i := 11) (v := _) ?hi11 (by kernel_rfl) (by kernel_rfl) (by kernel_rfl) ?hQ11 ?hy11 (by assumption) ?_
        case hi11 => (simp only [List.getElem?_toArray, List.getElem?_cons_succ, List.getElem?_cons_zero]; rfl)
        case hy11 => refine Or.inl ⟨by rfl, ?_⟩; intro w hSw; (try dsimp only at hSw); go_simp <;> with_reducible rfl
        case hQ11 => exact fun _ _ _ h => h
        try simp only [Act.put, List.setIfInBounds_toArray, List.set_cons_zero, List.set_cons_succ]
        refine wpAnyH_ready (rs := [12]) (by kernel_rfl) (by simp) ?_
        refine AllReadyH.cons rfl (fun KK hKK => ?_) ?_
        · go_simp
          go_at_call 66
          refine (exp_any p q g (tj + oj * y0) _ hB (by omega) (by omega)).mono ?_
          rintro ek wk12 ⟨rfl, hbk12⟩
          have hxk12 := Ext.trans (w := wr) (by repeat (first | with_reducible assumption | with_reducible exact Ext.refl _ | with_reducible apply Ext.alloc | with_reducible apply Ext.drew | with_reducible apply Ext.drewN)) hbk12
          refine hKK.out _ _ ?_ (fun hHeld => ?_)
          · exact hS _ (by repeat (first | with_reducible assumption | with_reducible exact Ext.refl _ | with_reducible apply Ext.alloc | with_reducible apply Ext.drew | with_reducible apply Ext.drewN))
          clear hKK KK
          try simp only [Act.put, List.setIfInBounds_toArray, List.set_cons_zero, List.set_cons_succ]
          refine' wpAnyH_take (i := 13) (v := _) ?hi13 (by kernel_rfl) (by kernel_rfl) (by kernel_rfl) ?hQ13 ?hy13 (by assumption) ?_
          case hi13 => (simp only [List.getElem?_toArray, List.getElem?_cons_succ, List.getElem?_cons_zero]; rfl)
          case hy13 => refine Or.inl ⟨by rfl, ?_⟩; intro w hSw; (try dsimp only at hSw); go_simp <;> with_reducible rfl
          case hQ13 => exact fun _ _ _ h => h
          try simp only [Act.put, List.setIfInBounds_toArray, List.set_cons_zero, List.set_cons_succ]
          refine wpAnyH_done (by kernel_rfl) ?_ _
          go_wp2
          go_roundw
          case rel => exact ⟨j + 1, by omega, by rw [HYS.out], by go_num, E2.trans hxk12⟩
          case measure => first | (simp [intOf]; done) | (simp [intOf]; omega)
        exact AllReadyH.nil
    · obtain rfl : n = j := by omega
      obtain ⟨yv, hyv⟩ : ∃ v, pmY q own zT n = v := ⟨_, rfl⟩
      have hyr := pmY_rg hq2 own zT n
      rw [hyv] at hyr ⊢
      have HYV := Lib.hid hyv
      clear hyv hlt
      replace E := E.trans E2
      replace B0 := B0.ext E2
      replace B1 := B1.ext E2
      replace B2 := B2.ext E2
      replace hO := hO.ext E2
      replace h1 := h1.ext E2
      replace h2 := h2.ext E2
      replace BP := BP.ext E2
      replace hU := hU.ext E2
      replace hD := hD.ext E2
      replace hW := hW.ext E2
      replace E6 := E6.trans E2
      clear E2
      go_wp2_with fail
      refine (sides_any O n oc ou _ hO.rd HOL.out (by omega)).mono ?_
      rintro en v19 ⟨U1, u1, V1, v1, rfl, hU1, hV1, -, hb⟩
      replace E := E.trans hb
      replace B0 := B0.ext hb
      replace B1 := B1.ext hb
      replace B2 := B2.ext hb
      replace hO := hO.ext hb
      replace h1 := h1.ext hb
      replace h2 := h2.ext hb
      replace BP := BP.ext hb
      replace hU := hU.ext hb
      replace hD := hD.ext hb
      replace hW := hW.ext hb
      replace E6 := E6.trans hb
      clear hb
      generalize hWc : v19 = Wc at *
      clear hWc
      have BX9 : Hid (∀ x ∈ zX, -9000000000000000000 ≤ x ∧ x ≤ 9000000000000000000) := fun x hx => by have := BX.out x hx; omega
      have wnF : IntKind.i64.wrap (-xF) = -xF := IntWalk.i64_in _ (by omega)
      obtain ⟨V131, h131⟩ : ∃ v, gpw p q g xA = v := ⟨_, rfl⟩
      have r131 : 0 ≤ V131 ∧ V131 ≤ 2000000000 := by rw [← h131]; exact gpw_rg p q g xA hB
      have K131 := Lib.hid h131
      clear h131
      obtain ⟨V137, h137⟩ : ∃ v, gpw p q g xB = v := ⟨_, rfl⟩
      have r137 : 0 ≤ V137 ∧ V137 ≤ 2000000000 := by rw [← h137]; exact gpw_rg p q g xB hB
      have K137 := Lib.hid h137
      clear h137
      obtain ⟨V142, h142⟩ : ∃ v, prodV p q hs zX n = v := ⟨_, rfl⟩
      have r142 : 0 ≤ V142 ∧ V142 ≤ 2000000000 := by rw [← h142]; exact prod_bd hB hs zX n
      have K142 := Lib.hid h142
      clear h142
      obtain ⟨V144, h144⟩ : ∃ v, gmul p [V137, V142] = v := ⟨_, rfl⟩
      have r144 : 0 ≤ V144 ∧ V144 ≤ 2000000000 := by rw [← h144]; exact g2_bd hB r137.1 r142.1
      have K144 := Lib.hid h144
      clear h144
      obtain ⟨V149, h149⟩ : ∃ v, gpw p q g xD = v := ⟨_, rfl⟩
      have r149 : 0 ≤ V149 ∧ V149 ≤ 2000000000 := by rw [← h149]; exact gpw_rg p q g xD hB
      have K149 := Lib.hid h149
      clear h149
      obtain ⟨V156, h156⟩ : ∃ v, gpw p q g (-xF) = v := ⟨_, rfl⟩
      have r156 : 0 ≤ V156 ∧ V156 ≤ 2000000000 := by rw [← h156]; exact gpw_rg p q g (-xF) hB
      have K156 := Lib.hid h156
      clear h156
      obtain ⟨V160, h160⟩ : ∃ v, prodV p q (ou.map Prod.fst) zX n = v := ⟨_, rfl⟩
      have r160 : 0 ≤ V160 ∧ V160 ≤ 2000000000 := by rw [← h160]; exact prod_bd hB _ zX n
      have K160 := Lib.hid h160
      clear h160
      obtain ⟨V162, h162⟩ : ∃ v, gmul p [V156, V160] = v := ⟨_, rfl⟩
      have r162 : 0 ≤ V162 ∧ V162 ≤ 2000000000 := by rw [← h162]; exact g2_bd hB r156.1 r160.1
      have K162 := Lib.hid h162
      clear h162
      obtain ⟨V168, h168⟩ : ∃ v, gpw p q key (-xF) = v := ⟨_, rfl⟩
      have r168 : 0 ≤ V168 ∧ V168 ≤ 2000000000 := by rw [← h168]; exact gpw_rg p q key (-xF) hB
      have K168 := Lib.hid h168
      clear h168
      obtain ⟨V172, h172⟩ : ∃ v, prodV p q (ou.map Prod.snd) zX n = v := ⟨_, rfl⟩
      have r172 : 0 ≤ V172 ∧ V172 ≤ 2000000000 := by rw [← h172]; exact prod_bd hB _ zX n
      have K172 := Lib.hid h172
      clear h172
      obtain ⟨V174, h174⟩ : ∃ v, gmul p [V168, V172] = v := ⟨_, rfl⟩
      have r174 : 0 ≤ V174 ∧ V174 ≤ 2000000000 := by rw [← h174]; exact g2_bd hB r168.1 r172.1
      have K174 := Lib.hid h174
      clear h174
      have hS : ∀ V, Ext Wc V → V.cell? ⟨w.heap.size, 0, none⟩ = some (.int .i64 p) ∧ V.cell? ⟨w.heap.size, 1, none⟩ = some (.int .i64 q) ∧ V.cell? ⟨w.heap.size, 2, none⟩ = some (.int .i64 g) ∧ V.cell? ⟨w.heap.size + 1, 1, none⟩ = some (.slice AH n cH) := fun V hV => by
        have a0 := (B0.ext hV).cells
        have a1 := (B1.ext hV).cells
        exact ⟨a0 0, a0 1, a0 2, a1 1⟩
      go_upto_region 20 with (fail)
      go_cut [] from 127 to 177 (fun wx => ∃ gl, Blk wx gp 30 #[.slice C1 n e1, .slice C2 n e2, .slice (some ⟨gl, 0, none⟩) 5 5, .slice none 0 0, .slice none 0 0] ∧ OwnI wx Wc.heap.size 3 (some ⟨gl, 0, none⟩) 5 5 [V131, V144, V149, V162, V174] ∧ Only [gp] Wc wx)
      case first =>
        clear HA HPL HRL HG HM0 HPR BR BC BA BA2 HSE HTE HWE HXE HLS HLT HLW BS BT BW BX hO hU hD hW h1 h2 BOU HOU HOL HCO HCL BCO HCK HES HEL BE HOW HWL BOW BOW4 HCN BCN HNL HYV L1 G2 bS4 bT4 bR4 E6 E0 B06 B16 B2 rS rT rW hyr hgw hz6 B2s hs1 ha hp hr hc hI hf0 hfm HxA HxB HxD HxF
        as_aux_lemma =>
          refine wp_region_heldL (S := fun V => V.cell? ⟨w.heap.size, 0, none⟩ = some (.int .i64 p) ∧ V.cell? ⟨w.heap.size, 1, none⟩ = some (.int .i64 q) ∧ V.cell? ⟨w.heap.size, 2, none⟩ = some (.int .i64 g) ∧ V.cell? ⟨w.heap.size + 1, 1, none⟩ = some (.slice AH n cH)) 51 (by kernel_rfl) ?_ (fun hHeld => ?_)
          · exact hS _ (by repeat (first | with_reducible assumption | with_reducible exact Ext.refl _ | with_reducible apply Ext.alloc | with_reducible apply Ext.drew | with_reducible apply Ext.drewN))
          refine' wpAnyL_take (i := 0) (v := _) ?hi0 (by kernel_rfl) (by kernel_rfl) (by kernel_rfl) [51] (by kernel_rfl) ?hQ0 ?hy0 (by assumption) ?_
          case hi0 => (simp only [List.getElem?_toArray, List.getElem?_cons_zero]; rfl)
          case hy0 => refine Or.inl ⟨by rfl, ?_⟩; intro w hSw; (try dsimp only at hSw); go_simp <;> with_reducible rfl
          case hQ0 => exact fun _ _ _ h => h
          try simp only [Act.put, List.setIfInBounds_toArray, List.set_cons_zero, List.set_cons_succ]
          refine' wpAnyL_take (i := 1) (v := _) ?hi1 (by kernel_rfl) (by kernel_rfl) (by kernel_rfl) [51] (by kernel_rfl) ?hQ1 ?hy1 (by assumption) ?_
          case hi1 => (simp only [List.getElem?_toArray, List.getElem?_cons_succ, List.getElem?_cons_zero]; rfl)
          case hy1 => refine Or.inl ⟨by rfl, ?_⟩; intro w hSw; (try dsimp only at hSw); go_simp <;> with_reducible rfl
          case hQ1 => exact fun _ _ _ h => h
          try simp only [Act.put, List.setIfInBounds_toArray, List.set_cons_zero, List.set_cons_succ]
          refine' wpAnyL_take (i := 2) (v := _) ?hi2 (by kernel_rfl) (by kernel_rfl) (by kernel_rfl) [51] (by kernel_rfl) ?hQ2 ?hy2 (by assumption) ?_
          case hi2 => (simp only [List.getElem?_toArray, List.getElem?_cons_succ, List.getElem?_cons_zero]; rfl)
          case hy2 => refine Or.inl ⟨by rfl, ?_⟩; intro w hSw; (try dsimp only at hSw); go_simp <;> with_reducible rfl
          case hQ2 => exact fun _ _ _ h => h
          try simp only [Act.put, List.setIfInBounds_toArray, List.set_cons_zero, List.set_cons_succ]
          refine' wpAnyL_take (i := 3) (v := _) ?hi3 (by kernel_rfl) (by kernel_rfl) (by kernel_rfl) [51] (by kernel_rfl) ?hQ3 ?hy3 (by assumption) ?_
          case hi3 => (simp only [List.getElem?_toArray, List.getElem?_cons_succ, List.getElem?_cons_zero]; rfl)
          case hy3 => refine Or.inl ⟨by rfl, ?_⟩; intro w hSw; (try dsimp only at hSw); go_simp <;> with_reducible rfl
          case hQ3 => exact fun _ _ _ h => h
          try simp only [Act.put, List.setIfInBounds_toArray, List.set_cons_zero, List.set_cons_succ]
          refine' wpAnyL_take (i := 5) (v := _) ?hi5 (by kernel_rfl) (by kernel_rfl) (by kernel_rfl) [51] (by kernel_rfl) ?hQ5 ?hy5 (by assumption) ?_
          case hi5 => (simp only [List.getElem?_toArray, List.getElem?_cons_succ, List.getElem?_cons_zero]; rfl)
          case hy5 => refine Or.inl ⟨by rfl, ?_⟩; intro w hSw; (try dsimp only at hSw); go_simp <;> with_reducible rfl
          case hQ5 => exact fun _ _ _ h => h
          try simp only [Act.put, List.setIfInBounds_toArray, List.set_cons_zero, List.set_cons_succ]
          refine' wpAnyL_take (i := 6) (v := _) ?hi6 (by kernel_rfl) (by kernel_rfl) (by kernel_rfl) [51] (by kernel_rfl) ?hQ6 ?hy6 (by assumption) ?_
          case hi6 => (simp only [List.getElem?_toArray, List.getElem?_cons_succ, List.getElem?_cons_zero]; rfl)
          case hy6 => refine Or.inl ⟨by rfl, ?_⟩; intro w hSw; (try dsimp only at hSw); go_simp <;> with_reducible rfl
          case hQ6 => exact fun _ _ _ h => h
          try simp only [Act.put, List.setIfInBounds_toArray, List.set_cons_zero, List.set_cons_succ]
          refine' wpAnyL_take (i := 7) (v := _) ?hi7 (by kernel_rfl) (by kernel_rfl) (by kernel_rfl) [51] (by kernel_rfl) ?hQ7 ?hy7 (by assumption) ?_
          case hi7 => (simp only [List.getElem?_toArray, List.getElem?_cons_succ, List.getElem?_cons_zero]; rfl)
          case hy7 => refine Or.inl ⟨by rfl, ?_⟩; intro w hSw; (try dsimp only at hSw); go_simp <;> with_reducible rfl
          case hQ7 => exact fun _ _ _ h => h
          try simp only [Act.put, List.setIfInBounds_toArray, List.set_cons_zero, List.set_cons_succ]
          refine' wpAnyL_take (i := 8) (v := _) ?hi8 (by kernel_rfl) (by kernel_rfl) (by kernel_rfl) [51] (by kernel_rfl) ?hQ8 ?hy8 (by assumption) ?_
          case hi8 => (simp only [List.getElem?_toArray, List.getElem?_cons_succ, List.getElem?_cons_zero]; rfl)
          case hy8 => refine Or.inl ⟨by rfl, ?_⟩; intro w hSw; (try dsimp only at hSw); go_simp <;> with_reducible rfl
          case hQ8 => exact fun _ _ _ h => h
          try simp only [Act.put, List.setIfInBounds_toArray, List.set_cons_zero, List.set_cons_succ]
          refine' wpAnyL_take (i := 9) (v := _) ?hi9 (by kernel_rfl) (by kernel_rfl) (by kernel_rfl) [51] (by kernel_rfl) ?hQ9 ?hy9 (by assumption) ?_
          case hi9 => (simp only [List.getElem?_toArray, List.getElem?_cons_succ, List.getElem?_cons_zero]; rfl)
          case hy9 => refine Or.inl ⟨by rfl, ?_⟩; intro w hSw; (try dsimp only at hSw); go_simp <;> with_reducible rfl
          case hQ9 => exact fun _ _ _ h => h
          try simp only [Act.put, List.setIfInBounds_toArray, List.set_cons_zero, List.set_cons_succ]
          refine' wpAnyL_take (i := 11) (v := _) ?hi11 (by kernel_rfl) (by kernel_rfl) (by kernel_rfl) [51] (by kernel_rfl) ?hQ11 ?hy11 (by assumption) ?_
          case hi11 => (simp only [List.getElem?_toArray, List.getElem?_cons_succ, List.getElem?_cons_zero]; rfl)
          case hy11 => refine Or.inl ⟨by rfl, ?_⟩; intro w hSw; (try dsimp only at hSw); go_simp <;> with_reducible rfl
          case hQ11 => exact fun _ _ _ h => h
          try simp only [Act.put, List.setIfInBounds_toArray, List.set_cons_zero, List.set_cons_succ]
          refine' wpAnyL_take (i := 12) (v := _) ?hi12 (by kernel_rfl) (by kernel_rfl) (by kernel_rfl) [51] (by kernel_rfl) ?hQ12 ?hy12 (by assumption) ?_
          case hi12 => (simp only [List.getElem?_toArray, List.getElem?_cons_succ, List.getElem?_cons_zero]; rfl)
          case hy12 => refine Or.inl ⟨by rfl, ?_⟩; intro w hSw; (try dsimp only at hSw); go_simp <;> with_reducible rfl
          case hQ12 => exact fun _ _ _ h => h
          try simp only [Act.put, List.setIfInBounds_toArray, List.set_cons_zero, List.set_cons_succ]
          refine' wpAnyL_take (i := 13) (v := _) ?hi13 (by kernel_rfl) (by kernel_rfl) (by kernel_rfl) [51] (by kernel_rfl) ?hQ13 ?hy13 (by assumption) ?_
          case hi13 => (simp only [List.getElem?_toArray, List.getElem?_cons_succ, List.getElem?_cons_zero]; rfl)
          case hy13 => refine Or.inl ⟨by rfl, ?_⟩; intro w hSw; (try dsimp only at hSw); go_simp <;> with_reducible rfl
          case hQ13 => exact fun _ _ _ h => h
          try simp only [Act.put, List.setIfInBounds_toArray, List.set_cons_zero, List.set_cons_succ]
          refine' wpAnyL_take (i := 14) (v := _) ?hi14 (by kernel_rfl) (by kernel_rfl) (by kernel_rfl) [51] (by kernel_rfl) ?hQ14 ?hy14 (by assumption) ?_
          case hi14 => (simp only [List.getElem?_toArray, List.getElem?_cons_succ, List.getElem?_cons_zero]; rfl)
          case hy14 => refine Or.inl ⟨by rfl, ?_⟩; intro w hSw; (try dsimp only at hSw); go_simp <;> with_reducible rfl
          case hQ14 => exact fun _ _ _ h => h
          try simp only [Act.put, List.setIfInBounds_toArray, List.set_cons_zero, List.set_cons_succ]
          refine' wpAnyL_take (i := 18) (v := _) ?hi18 (by kernel_rfl) (by kernel_rfl) (by kernel_rfl) [51] (by kernel_rfl) ?hQ18 ?hy18 (by assumption) ?_
          case hi18 => (simp only [List.getElem?_toArray, List.getElem?_cons_succ, List.getElem?_cons_zero]; rfl)
          case hy18 => refine Or.inl ⟨by rfl, ?_⟩; intro w hSw; (try dsimp only at hSw); go_simp <;> with_reducible rfl
          case hQ18 => exact fun _ _ _ h => h
          try simp only [Act.put, List.setIfInBounds_toArray, List.set_cons_zero, List.set_cons_succ]
          refine' wpAnyL_take (i := 19) (v := _) ?hi19 (by kernel_rfl) (by kernel_rfl) (by kernel_rfl) [51] (by kernel_rfl) ?hQ19 ?hy19 (by assumption) ?_
          case hi19 => (simp only [List.getElem?_toArray, List.getElem?_cons_succ, List.getElem?_cons_zero]; rfl)
          case hy19 => refine Or.inl ⟨by rfl, ?_⟩; intro w hSw; (try dsimp only at hSw); go_simp <;> with_reducible rfl
          case hQ19 => exact fun _ _ _ h => h
          try simp only [Act.put, List.setIfInBounds_toArray, List.set_cons_zero, List.set_cons_succ]
          refine' wpAnyL_take (i := 20) (v := _) ?hi20 (by kernel_rfl) (by kernel_rfl) (by kernel_rfl) [51] (by kernel_rfl) ?hQ20 ?hy20 (by assumption) ?_
          case hi20 => (simp only [List.getElem?_toArray, List.getElem?_cons_succ, List.getElem?_cons_zero]; rfl)
          case hy20 => refine Or.inl ⟨by rfl, ?_⟩; intro w hSw; (try dsimp only at hSw); go_simp <;> with_reducible rfl
          case hQ20 => exact fun _ _ _ h => h
          try simp only [Act.put, List.setIfInBounds_toArray, List.set_cons_zero, List.set_cons_succ]
          refine' wpAnyL_take (i := 21) (v := _) ?hi21 (by kernel_rfl) (by kernel_rfl) (by kernel_rfl) [51] (by kernel_rfl) ?hQ21 ?hy21 (by assumption) ?_
          case hi21 => (simp only [List.getElem?_toArray, List.getElem?_cons_succ, List.getElem?_cons_zero]; rfl)
          case hy21 => refine Or.inl ⟨by rfl, ?_⟩; intro w hSw; (try dsimp only at hSw); go_simp <;> with_reducible rfl
          case hQ21 => exact fun _ _ _ h => h
          try simp only [Act.put, List.setIfInBounds_toArray, List.set_cons_zero, List.set_cons_succ]
          refine' wpAnyL_take (i := 23) (v := _) ?hi23 (by kernel_rfl) (by kernel_rfl) (by kernel_rfl) [51] (by kernel_rfl) ?hQ23 ?hy23 (by assumption) ?_
          case hi23 => (simp only [List.getElem?_toArray, List.getElem?_cons_succ, List.getElem?_cons_zero]; rfl)
          case hy23 => refine Or.inl ⟨by rfl, ?_⟩; intro w hSw; (try dsimp only at hSw); go_simp <;> with_reducible rfl
          case hQ23 => exact fun _ _ _ h => h
          try simp only [Act.put, List.setIfInBounds_toArray, List.set_cons_zero, List.set_cons_succ]
          refine' wpAnyL_take (i := 24) (v := _) ?hi24 (by kernel_rfl) (by kernel_rfl) (by kernel_rfl) [51] (by kernel_rfl) ?hQ24 ?hy24 (by assumption) ?_
          case hi24 => (simp only [List.getElem?_toArray, List.getElem?_cons_succ, List.getElem?_cons_zero]; rfl)
          case hy24 => refine Or.inl ⟨by rfl, ?_⟩; intro w hSw; (try dsimp only at hSw); go_simp <;> with_reducible rfl
          case hQ24 => exact fun _ _ _ h => h
          try simp only [Act.put, List.setIfInBounds_toArray, List.set_cons_zero, List.set_cons_succ]
          refine' wpAnyL_take (i := 25) (v := _) ?hi25 (by kernel_rfl) (by kernel_rfl) (by kernel_rfl) [51] (by kernel_rfl) ?hQ25 ?hy25 (by assumption) ?_
          case hi25 => (simp only [List.getElem?_toArray, List.getElem?_cons_succ, List.getElem?_cons_zero]; rfl)
          case hy25 => refine Or.inl ⟨by rfl, ?_⟩; intro w hSw; (try dsimp only at hSw); go_simp <;> with_reducible rfl
          case hQ25 => exact fun _ _ _ h => h
          try simp only [Act.put, List.setIfInBounds_toArray, List.set_cons_zero, List.set_cons_succ]
          refine' wpAnyL_take (i := 26) (v := _) ?hi26 (by kernel_rfl) (by kernel_rfl) (by kernel_rfl) [51] (by kernel_rfl) ?hQ26 ?hy26 (by assumption) ?_
          case hi26 => (simp only [List.getElem?_toArray, List.getElem?_cons_succ, List.getElem?_cons_zero]; rfl)
          case hy26 => refine Or.inl ⟨by rfl, ?_⟩; intro w hSw; (try dsimp only at hSw); go_simp <;> with_reducible rfl
          case hQ26 => exact fun _ _ _ h => h
          try simp only [Act.put, List.setIfInBounds_toArray, List.set_cons_zero, List.set_cons_succ]
          refine' wpAnyL_take (i := 27) (v := _) ?hi27 (by kernel_rfl) (by kernel_rfl) (by kernel_rfl) [51] (by kernel_rfl) ?hQ27 ?hy27 (by assumption) ?_
          case hi27 => (simp only [List.getElem?_toArray, List.getElem?_cons_succ, List.getElem?_cons_zero]; rfl)
          case hy27 => refine Or.inl ⟨by rfl, ?_⟩; intro w hSw; (try dsimp only at hSw); go_simp <;> with_reducible rfl
          case hQ27 => exact fun _ _ _ h => h
          try simp only [Act.put, List.setIfInBounds_toArray, List.set_cons_zero, List.set_cons_succ]
          refine' wpAnyL_take (i := 28) (v := _) ?hi28 (by kernel_rfl) (by kernel_rfl) (by kernel_rfl) [51] (by kernel_rfl) ?hQ28 ?hy28 (by assumption) ?_
          case hi28 => (simp only [List.getElem?_toArray, List.getElem?_cons_succ, List.getElem?_cons_zero]; rfl)
          case hy28 => refine Or.inl ⟨by rfl, ?_⟩; intro w hSw; (try dsimp only at hSw); go_simp <;> with_reducible rfl
          case hQ28 => exact fun _ _ _ h => h
          try simp only [Act.put, List.setIfInBounds_toArray, List.set_cons_zero, List.set_cons_succ]
          refine' wpAnyL_take (i := 30) (v := _) ?hi30 (by kernel_rfl) (by kernel_rfl) (by kernel_rfl) [51] (by kernel_rfl) ?hQ30 ?hy30 (by assumption) ?_
          case hi30 => (simp only [List.getElem?_toArray, List.getElem?_cons_succ, List.getElem?_cons_zero]; rfl)
          case hy30 => refine Or.inl ⟨by rfl, ?_⟩; intro w hSw; (try dsimp only at hSw); go_simp <;> with_reducible rfl
          case hQ30 => exact fun _ _ _ h => h
          try simp only [Act.put, List.setIfInBounds_toArray, List.set_cons_zero, List.set_cons_succ]
          refine' wpAnyL_take (i := 31) (v := _) ?hi31 (by kernel_rfl) (by kernel_rfl) (by kernel_rfl) [51] (by kernel_rfl) ?hQ31 ?hy31 (by assumption) ?_
          case hi31 => (simp only [List.getElem?_toArray, List.getElem?_cons_succ, List.getElem?_cons_zero]; rfl)
          case hy31 => refine Or.inl ⟨by rfl, ?_⟩; intro w hSw; (try dsimp only at hSw); go_simp <;> with_reducible rfl
          case hQ31 => exact fun _ _ _ h => h
          try simp only [Act.put, List.setIfInBounds_toArray, List.set_cons_zero, List.set_cons_succ]
          refine' wpAnyL_take (i := 32) (v := _) ?hi32 (by kernel_rfl) (by kernel_rfl) (by kernel_rfl) [51] (by kernel_rfl) ?hQ32 ?hy32 (by assumption) ?_
          case hi32 => (simp only [List.getElem?_toArray, List.getElem?_cons_succ, List.getElem?_cons_zero]; rfl)
          case hy32 => refine Or.inl ⟨by rfl, ?_⟩; intro w hSw; (try dsimp only at hSw); go_simp <;> with_reducible rfl
          case hQ32 => exact fun _ _ _ h => h
          try simp only [Act.put, List.setIfInBounds_toArray, List.set_cons_zero, List.set_cons_succ]
          refine' wpAnyL_take (i := 36) (v := _) ?hi36 (by kernel_rfl) (by kernel_rfl) (by kernel_rfl) [51] (by kernel_rfl) ?hQ36 ?hy36 (by assumption) ?_
          case hi36 => (simp only [List.getElem?_toArray, List.getElem?_cons_succ, List.getElem?_cons_zero]; rfl)
          case hy36 => refine Or.inl ⟨by rfl, ?_⟩; intro w hSw; (try dsimp only at hSw); go_simp <;> with_reducible rfl
          case hQ36 => exact fun _ _ _ h => h
          try simp only [Act.put, List.setIfInBounds_toArray, List.set_cons_zero, List.set_cons_succ]
          refine' wpAnyL_take (i := 37) (v := _) ?hi37 (by kernel_rfl) (by kernel_rfl) (by kernel_rfl) [51] (by kernel_rfl) ?hQ37 ?hy37 (by assumption) ?_
          case hi37 => (simp only [List.getElem?_toArray, List.getElem?_cons_succ, List.getElem?_cons_zero]; rfl)
          case hy37 => refine Or.inl ⟨by rfl, ?_⟩; intro w hSw; (try dsimp only at hSw); go_simp <;> with_reducible rfl
          case hQ37 => exact fun _ _ _ h => h
          try simp only [Act.put, List.setIfInBounds_toArray, List.set_cons_zero, List.set_cons_succ]
          refine' wpAnyL_take (i := 38) (v := _) ?hi38 (by kernel_rfl) (by kernel_rfl) (by kernel_rfl) [51] (by kernel_rfl) ?hQ38 ?hy38 (by assumption) ?_
          case hi38 => (simp only [List.getElem?_toArray, List.getElem?_cons_succ, List.getElem?_cons_zero]; rfl)
          case hy38 => refine Or.inl ⟨by rfl, ?_⟩; intro w hSw; (try dsimp only at hSw); go_simp <;> with_reducible rfl
          case hQ38 => exact fun _ _ _ h => h
          try simp only [Act.put, List.setIfInBounds_toArray, List.set_cons_zero, List.set_cons_succ]
          refine' wpAnyL_take (i := 39) (v := _) ?hi39 (by kernel_rfl) (by kernel_rfl) (by kernel_rfl) [51] (by kernel_rfl) ?hQ39 ?hy39 (by assumption) ?_
          case hi39 => (simp only [List.getElem?_toArray, List.getElem?_cons_succ, List.getElem?_cons_zero]; rfl)
          case hy39 => refine Or.inl ⟨by rfl, ?_⟩; intro w hSw; (try dsimp only at hSw); go_simp <;> with_reducible rfl
          case hQ39 => exact fun _ _ _ h => h
          try simp only [Act.put, List.setIfInBounds_toArray, List.set_cons_zero, List.set_cons_succ]
          refine' wpAnyL_take (i := 40) (v := _) ?hi40 (by kernel_rfl) (by kernel_rfl) (by kernel_rfl) [51] (by kernel_rfl) ?hQ40 ?hy40 (by assumption) ?_
          case hi40 => (simp only [List.getElem?_toArray, List.getElem?_cons_succ, List.getElem?_cons_zero]; rfl)
          case hy40 => refine Or.inl ⟨by rfl, ?_⟩; intro w hSw; (try dsimp only at hSw); go_simp <;> with_reducible rfl
          case hQ40 => exact fun _ _ _ h => h
          try simp only [Act.put, List.setIfInBounds_toArray, List.set_cons_zero, List.set_cons_succ]
          refine' wpAnyL_take (i := 42) (v := _) ?hi42 (by kernel_rfl) (by kernel_rfl) (by kernel_rfl) [51] (by kernel_rfl) ?hQ42 ?hy42 (by assumption) ?_
          case hi42 => (simp only [List.getElem?_toArray, List.getElem?_cons_succ, List.getElem?_cons_zero]; rfl)
          case hy42 => refine Or.inl ⟨by rfl, ?_⟩; intro w hSw; (try dsimp only at hSw); go_simp <;> with_reducible rfl
          case hQ42 => exact fun _ _ _ h => h
          try simp only [Act.put, List.setIfInBounds_toArray, List.set_cons_zero, List.set_cons_succ]
          refine' wpAnyL_take (i := 43) (v := _) ?hi43 (by kernel_rfl) (by kernel_rfl) (by kernel_rfl) [51] (by kernel_rfl) ?hQ43 ?hy43 (by assumption) ?_
          case hi43 => (simp only [List.getElem?_toArray, List.getElem?_cons_succ, List.getElem?_cons_zero]; rfl)
          case hy43 => refine Or.inl ⟨by rfl, ?_⟩; intro w hSw; (try dsimp only at hSw); go_simp <;> with_reducible rfl
          case hQ43 => exact fun _ _ _ h => h
          try simp only [Act.put, List.setIfInBounds_toArray, List.set_cons_zero, List.set_cons_succ]
          refine' wpAnyL_take (i := 44) (v := _) ?hi44 (by kernel_rfl) (by kernel_rfl) (by kernel_rfl) [51] (by kernel_rfl) ?hQ44 ?hy44 (by assumption) ?_
          case hi44 => (simp only [List.getElem?_toArray, List.getElem?_cons_succ, List.getElem?_cons_zero]; rfl)
          case hy44 => refine Or.inl ⟨by rfl, ?_⟩; intro w hSw; (try dsimp only at hSw); go_simp <;> with_reducible rfl
          case hQ44 => exact fun _ _ _ h => h
          try simp only [Act.put, List.setIfInBounds_toArray, List.set_cons_zero, List.set_cons_succ]
          refine wpAnyL_ready (rs := [4]) (by kernel_rfl) (by simp) ?_
          refine AllReadyL.cons rfl (by kernel_rfl) (fun KK hKK => ?_) ?_
          · go_simp
            go_at_call 68
            refine (pow_any p q g g xA _ hB (by omega) (by omega) (by omega) (by omega)).mono ?_
            rintro ek wk4 ⟨hek, hbk4⟩
            rw [K131.out] at hek; subst hek
            have hxk4 := Ext.trans (w := Wc) (by repeat (first | with_reducible assumption | with_reducible exact Ext.refl _ | with_reducible apply Ext.alloc | with_reducible apply Ext.drew | with_reducible apply Ext.drewN)) hbk4
            refine hKK.out _ _ ?_ (fun hHeld => ?_)
            · exact hS _ (by repeat (first | with_reducible assumption | with_reducible exact Ext.refl _ | with_reducible apply Ext.alloc | with_reducible apply Ext.drew | with_reducible apply Ext.drewN))
            clear hKK KK
            try simp only [Act.put, List.setIfInBounds_toArray, List.set_cons_zero, List.set_cons_succ]
            refine wpAnyL_ready (rs := [10]) (by kernel_rfl) (by simp) ?_
            refine AllReadyL.cons rfl (by kernel_rfl) (fun KK hKK => ?_) ?_
            · go_simp
              go_at_call 68
              refine (pow_any p q g g xB _ hB (by omega) (by omega) (by omega) (by omega)).mono ?_
              rintro ek wk10 ⟨hek, hbk10⟩
              rw [K137.out] at hek; subst hek
              have hxk10 := Ext.trans (w := Wc) (by repeat (first | with_reducible assumption | with_reducible exact Ext.refl _ | with_reducible apply Ext.alloc | with_reducible apply Ext.drew | with_reducible apply Ext.drewN)) hbk10
              refine hKK.out _ _ ?_ (fun hHeld => ?_)
              · exact hS _ (by repeat (first | with_reducible assumption | with_reducible exact Ext.refl _ | with_reducible apply Ext.alloc | with_reducible apply Ext.drew | with_reducible apply Ext.drewN))
              clear hKK KK
              try simp only [Act.put, List.setIfInBounds_toArray, List.set_cons_zero, List.set_cons_succ]
              refine wpAnyL_ready (rs := [15]) (by kernel_rfl) (by simp) ?_
              refine AllReadyL.cons rfl (by kernel_rfl) (fun KK hKK => ?_) ?_
              · go_simp
                go_at_call 70
                refine (powers_any p q g AH (some b7) n cH n f7 hs zX _ hB (rh.ext (E.trans (by repeat (first | with_reducible assumption | with_reducible exact Ext.refl _ | with_reducible apply Ext.alloc | with_reducible apply Ext.drew | with_reducible apply Ext.drewN)))) HH.out (rX.ext (E.trans (by repeat (first | with_reducible assumption | with_reducible exact Ext.refl _ | with_reducible apply Ext.alloc | with_reducible apply Ext.drew | with_reducible apply Ext.drewN)))) HLX.out (Nat.le_refl _) (by omega) BHS.out BX9.out).mono ?_
                rintro ek wk15 ⟨hek, hbk15⟩
                rw [K142.out] at hek; subst hek
                have hxk15 := Ext.trans (w := Wc) (by repeat (first | with_reducible assumption | with_reducible exact Ext.refl _ | with_reducible apply Ext.alloc | with_reducible apply Ext.drew | with_reducible apply Ext.drewN)) hbk15
                refine hKK.out _ _ ?_ (fun hHeld => ?_)
                · exact hS _ (by repeat (first | with_reducible assumption | with_reducible exact Ext.refl _ | with_reducible apply Ext.alloc | with_reducible apply Ext.drew | with_reducible apply Ext.drewN))
                clear hKK KK
                try simp only [Act.put, List.setIfInBounds_toArray, List.set_cons_zero, List.set_cons_succ]
                refine wpAnyL_ready (rs := [16]) (by kernel_rfl) (by simp) ?_
                refine AllReadyL.cons rfl (by kernel_rfl) (fun KK hKK => ?_) ?_
                · go_simp
                  refine hKK.out _ _ ?_ (fun hHeld => ?_)
                  · exact hS _ (by repeat (first | with_reducible assumption | with_reducible exact Ext.refl _ | with_reducible apply Ext.alloc | with_reducible apply Ext.drew | with_reducible apply Ext.drewN))
                  clear hKK KK
                  try simp only [Act.put, List.setIfInBounds_toArray, List.set_cons_zero, List.set_cons_succ]
                  refine wpAnyL_ready (rs := [17]) (by kernel_rfl) (by simp) ?_
                  refine AllReadyL.cons rfl (by kernel_rfl) (fun KK hKK => ?_) ?_
                  · go_simp
                    go_at_call 69
                    refine (mul_any p q g _ 2 2 [V137, V142] _ hB (rd_twoV (w := wk15) rfl (by repeat (first | with_reducible assumption | with_reducible exact Ext.refl _ | with_reducible apply Ext.alloc | with_reducible apply Ext.drew | with_reducible apply Ext.drewN))) rfl (by decide) (two_rg (by omega) (by omega))).mono ?_
                    rintro ek wk17 ⟨hek, hbk17⟩
                    rw [K144.out] at hek; subst hek
                    have hxk17 := Ext.trans (w := Wc) (by repeat (first | with_reducible assumption | with_reducible exact Ext.refl _ | with_reducible apply Ext.alloc | with_reducible apply Ext.drew | with_reducible apply Ext.drewN)) hbk17
                    refine hKK.out _ _ ?_ (fun hHeld => ?_)
                    · exact hS _ (by repeat (first | with_reducible assumption | with_reducible exact Ext.refl _ | with_reducible apply Ext.alloc | with_reducible apply Ext.drew | with_reducible apply Ext.drewN))
                    clear hKK KK
                    try simp only [Act.put, List.setIfInBounds_toArray, List.set_cons_zero, List.set_cons_succ]
                    refine wpAnyL_ready (rs := [22]) (by kernel_rfl) (by simp) ?_
                    refine AllReadyL.cons rfl (by kernel_rfl) (fun KK hKK => ?_) ?_
                    · go_simp
                      go_at_call 68
                      refine (pow_any p q g g xD _ hB (by omega) (by omega) (by omega) (by omega)).mono ?_
                      rintro ek wk22 ⟨hek, hbk22⟩
                      rw [K149.out] at hek; subst hek
                      have hxk22 := Ext.trans (w := Wc) (by repeat (first | with_reducible assumption | with_reducible exact Ext.refl _ | with_reducible apply Ext.alloc | with_reducible apply Ext.drew | with_reducible apply Ext.drewN)) hbk22
                      refine hKK.out _ _ ?_ (fun hHeld => ?_)
                      · exact hS _ (by repeat (first | with_reducible assumption | with_reducible exact Ext.refl _ | with_reducible apply Ext.alloc | with_reducible apply Ext.drew | with_reducible apply Ext.drewN))
                      clear hKK KK
                      try simp only [Act.put, List.setIfInBounds_toArray, List.set_cons_zero, List.set_cons_succ]
                      refine wpAnyL_ready (rs := [29]) (by kernel_rfl) (by simp) ?_
                      refine AllReadyL.cons rfl (by kernel_rfl) (fun KK hKK => ?_) ?_
                      · go_simp
                        go_at_call 68
                        refine (pow_any p q g g (-xF) _ hB (by omega) (by omega) (by omega) (by omega)).mono ?_
                        rintro ek wk29 ⟨hek, hbk29⟩
                        rw [K156.out] at hek; subst hek
                        have hxk29 := Ext.trans (w := Wc) (by repeat (first | with_reducible assumption | with_reducible exact Ext.refl _ | with_reducible apply Ext.alloc | with_reducible apply Ext.drew | with_reducible apply Ext.drewN)) hbk29
                        refine hKK.out _ _ ?_ (fun hHeld => ?_)
                        · exact hS _ (by repeat (first | with_reducible assumption | with_reducible exact Ext.refl _ | with_reducible apply Ext.alloc | with_reducible apply Ext.drew | with_reducible apply Ext.drewN))
                        clear hKK KK
                        try simp only [Act.put, List.setIfInBounds_toArray, List.set_cons_zero, List.set_cons_succ]
                        refine wpAnyL_ready (rs := [33]) (by kernel_rfl) (by simp) ?_
                        refine AllReadyL.cons rfl (by kernel_rfl) (fun KK hKK => ?_) ?_
                        · go_simp
                          go_at_call 70
                          refine (powers_any p q g U1 (some b7) n u1 n f7 (ou.map Prod.fst) zX _ hB (hU1.rd.ext (by repeat (first | with_reducible assumption | with_reducible exact Ext.refl _ | with_reducible apply Ext.alloc | with_reducible apply Ext.drew | with_reducible apply Ext.drewN))) hU1.len (rX.ext (E.trans (by repeat (first | with_reducible assumption | with_reducible exact Ext.refl _ | with_reducible apply Ext.alloc | with_reducible apply Ext.drew | with_reducible apply Ext.drewN)))) HLX.out (Nat.le_refl _) (by omega) BOF.out BX9.out).mono ?_
                          rintro ek wk33 ⟨hek, hbk33⟩
                          rw [K160.out] at hek; subst hek
                          have hxk33 := Ext.trans (w := Wc) (by repeat (first | with_reducible assumption | with_reducible exact Ext.refl _ | with_reducible apply Ext.alloc | with_reducible apply Ext.drew | with_reducible apply Ext.drewN)) hbk33
                          refine hKK.out _ _ ?_ (fun hHeld => ?_)
                          · exact hS _ (by repeat (first | with_reducible assumption | with_reducible exact Ext.refl _ | with_reducible apply Ext.alloc | with_reducible apply Ext.drew | with_reducible apply Ext.drewN))
                          clear hKK KK
                          try simp only [Act.put, List.setIfInBounds_toArray, List.set_cons_zero, List.set_cons_succ]
                          refine wpAnyL_ready (rs := [34]) (by kernel_rfl) (by simp) ?_
                          refine AllReadyL.cons rfl (by kernel_rfl) (fun KK hKK => ?_) ?_
                          · go_simp
                            refine hKK.out _ _ ?_ (fun hHeld => ?_)
                            · exact hS _ (by repeat (first | with_reducible assumption | with_reducible exact Ext.refl _ | with_reducible apply Ext.alloc | with_reducible apply Ext.drew | with_reducible apply Ext.drewN))
                            clear hKK KK
                            try simp only [Act.put, List.setIfInBounds_toArray, List.set_cons_zero, List.set_cons_succ]
                            refine wpAnyL_ready (rs := [35]) (by kernel_rfl) (by simp) ?_
                            refine AllReadyL.cons rfl (by kernel_rfl) (fun KK hKK => ?_) ?_
                            · go_simp
                              go_at_call 69
                              refine (mul_any p q g _ 2 2 [V156, V160] _ hB (rd_twoV (w := wk33) rfl (by repeat (first | with_reducible assumption | with_reducible exact Ext.refl _ | with_reducible apply Ext.alloc | with_reducible apply Ext.drew | with_reducible apply Ext.drewN))) rfl (by decide) (two_rg (by omega) (by omega))).mono ?_
                              rintro ek wk35 ⟨hek, hbk35⟩
                              rw [K162.out] at hek; subst hek
                              have hxk35 := Ext.trans (w := Wc) (by repeat (first | with_reducible assumption | with_reducible exact Ext.refl _ | with_reducible apply Ext.alloc | with_reducible apply Ext.drew | with_reducible apply Ext.drewN)) hbk35
                              refine hKK.out _ _ ?_ (fun hHeld => ?_)
                              · exact hS _ (by repeat (first | with_reducible assumption | with_reducible exact Ext.refl _ | with_reducible apply Ext.alloc | with_reducible apply Ext.drew | with_reducible apply Ext.drewN))
                              clear hKK KK
                              try simp only [Act.put, List.setIfInBounds_toArray, List.set_cons_zero, List.set_cons_succ]
                              refine wpAnyL_ready (rs := [41]) (by kernel_rfl) (by simp) ?_
                              refine AllReadyL.cons rfl (by kernel_rfl) (fun KK hKK => ?_) ?_
                              · go_simp
                                go_at_call 68
                                refine (pow_any p q g key (-xF) _ hB (by omega) (by omega) (by omega) (by omega)).mono ?_
                                rintro ek wk41 ⟨hek, hbk41⟩
                                rw [K168.out] at hek; subst hek
                                have hxk41 := Ext.trans (w := Wc) (by repeat (first | with_reducible assumption | with_reducible exact Ext.refl _ | with_reducible apply Ext.alloc | with_reducible apply Ext.drew | with_reducible apply Ext.drewN)) hbk41
                                refine hKK.out _ _ ?_ (fun hHeld => ?_)
                                · exact hS _ (by repeat (first | with_reducible assumption | with_reducible exact Ext.refl _ | with_reducible apply Ext.alloc | with_reducible apply Ext.drew | with_reducible apply Ext.drewN))
                                clear hKK KK
                                try simp only [Act.put, List.setIfInBounds_toArray, List.set_cons_zero, List.set_cons_succ]
                                refine wpAnyL_ready (rs := [45]) (by kernel_rfl) (by simp) ?_
                                refine AllReadyL.cons rfl (by kernel_rfl) (fun KK hKK => ?_) ?_
                                · go_simp
                                  go_at_call 70
                                  refine (powers_any p q g V1 (some b7) n v1 n f7 (ou.map Prod.snd) zX _ hB (hV1.rd.ext (by repeat (first | with_reducible assumption | with_reducible exact Ext.refl _ | with_reducible apply Ext.alloc | with_reducible apply Ext.drew | with_reducible apply Ext.drewN))) hV1.len (rX.ext (E.trans (by repeat (first | with_reducible assumption | with_reducible exact Ext.refl _ | with_reducible apply Ext.alloc | with_reducible apply Ext.drew | with_reducible apply Ext.drewN)))) HLX.out (Nat.le_refl _) (by omega) BOS.out BX9.out).mono ?_
                                  rintro ek wk45 ⟨hek, hbk45⟩
                                  rw [K172.out] at hek; subst hek
                                  have hxk45 := Ext.trans (w := Wc) (by repeat (first | with_reducible assumption | with_reducible exact Ext.refl _ | with_reducible apply Ext.alloc | with_reducible apply Ext.drew | with_reducible apply Ext.drewN)) hbk45
                                  refine hKK.out _ _ ?_ (fun hHeld => ?_)
                                  · exact hS _ (by repeat (first | with_reducible assumption | with_reducible exact Ext.refl _ | with_reducible apply Ext.alloc | with_reducible apply Ext.drew | with_reducible apply Ext.drewN))
                                  clear hKK KK
                                  try simp only [Act.put, List.setIfInBounds_toArray, List.set_cons_zero, List.set_cons_succ]
                                  refine wpAnyL_ready (rs := [46]) (by kernel_rfl) (by simp) ?_
                                  refine AllReadyL.cons rfl (by kernel_rfl) (fun KK hKK => ?_) ?_
                                  · go_simp
                                    refine hKK.out _ _ ?_ (fun hHeld => ?_)
                                    · exact hS _ (by repeat (first | with_reducible assumption | with_reducible exact Ext.refl _ | with_reducible apply Ext.alloc | with_reducible apply Ext.drew | with_reducible apply Ext.drewN))
                                    clear hKK KK
                                    try simp only [Act.put, List.setIfInBounds_toArray, List.set_cons_zero, List.set_cons_succ]
                                    refine wpAnyL_ready (rs := [47]) (by kernel_rfl) (by simp) ?_
                                    refine AllReadyL.cons rfl (by kernel_rfl) (fun KK hKK => ?_) ?_
                                    · go_simp
                                      go_at_call 69
                                      refine (mul_any p q g _ 2 2 [V168, V172] _ hB (rd_twoV (w := wk45) rfl (by repeat (first | with_reducible assumption | with_reducible exact Ext.refl _ | with_reducible apply Ext.alloc | with_reducible apply Ext.drew | with_reducible apply Ext.drewN))) rfl (by decide) (two_rg (by omega) (by omega))).mono ?_
                                      rintro ek wk47 ⟨hek, hbk47⟩
                                      rw [K174.out] at hek; subst hek
                                      have hxk47 := Ext.trans (w := Wc) (by repeat (first | with_reducible assumption | with_reducible exact Ext.refl _ | with_reducible apply Ext.alloc | with_reducible apply Ext.drew | with_reducible apply Ext.drewN)) hbk47
                                      refine hKK.out _ _ ?_ (fun hHeld => ?_)
                                      · exact hS _ (by repeat (first | with_reducible assumption | with_reducible exact Ext.refl _ | with_reducible apply Ext.alloc | with_reducible apply Ext.drew | with_reducible apply Ext.drewN))
                                      clear hKK KK
                                      try simp only [Act.put, List.setIfInBounds_toArray, List.set_cons_zero, List.set_cons_succ]
                                      refine wpAnyL_ready (rs := [48]) (by kernel_rfl) (by simp) ?_
                                      refine AllReadyL.cons rfl (by kernel_rfl) (fun KK hKK => ?_) ?_
                                      · go_simp
                                        refine hKK.out _ _ ?_ (fun hHeld => ?_)
                                        · exact hS _ (by repeat (first | with_reducible assumption | with_reducible exact Ext.refl _ | with_reducible apply Ext.alloc | with_reducible apply Ext.drew | with_reducible apply Ext.drewN))
                                        clear hKK KK
                                        try simp only [Act.put, List.setIfInBounds_toArray, List.set_cons_zero, List.set_cons_succ]
                                        refine' wpAnyL_take (i := 49) (v := _) ?hi49 (by kernel_rfl) (by kernel_rfl) (by kernel_rfl) [50, 51] (by kernel_rfl) ?hQ49 ?hy49 (by assumption) ?_
                                        case hi49 => (simp only [List.getElem?_toArray, List.getElem?_cons_succ, List.getElem?_cons_zero]; rfl)
                                        case hy49 => refine Or.inl ⟨by rfl, ?_⟩; intro w hSw; (try dsimp only at hSw); go_simp <;> with_reducible rfl
                                        case hQ49 => exact fun _ _ _ h => h
                                        try simp only [Act.put, List.setIfInBounds_toArray, List.set_cons_zero, List.set_cons_succ]
                                        refine' wpAnyL_take (i := 50) (v := _) ?hi50 (by kernel_rfl) (by kernel_rfl) (by kernel_rfl) [51] (by kernel_rfl) ?hQ50 ?hy50 (by assumption) ?_
                                        case hi50 => (simp only [List.getElem?_toArray, List.getElem?_cons_succ, List.getElem?_cons_zero]; rfl)
                                        case hy50 => refine Or.inl ⟨by rfl, ?_⟩; intro w hSw; (try dsimp only at hSw); go_simp <;> with_reducible rfl
                                        case hQ50 => exact fun _ _ _ h => h
                                        try simp only [Act.put, List.setIfInBounds_toArray, List.set_cons_zero, List.set_cons_succ]
                                        refine wpAnyL_ready (rs := [51]) (by kernel_rfl) (by simp) ?_
                                        refine AllReadyL.last rfl (by kernel_rfl) (fun KK hKK => ?_) ?_
                                        · have BP7 := BP.ext (Ext.alloc hxk47 (.cells #[.int .i64 V131, .int .i64 V144, .int .i64 V149, .int .i64 V162, .int .i64 V174] 3))
                                          have FN := BP7.frozen
                                          have CN := BP7.cells
                                          have hO5 : OwnI (wk47.alloc (.cells #[.int .i64 V131, .int .i64 V144, .int .i64 V149, .int .i64 V162, .int .i64 V174] 3)) Wc.heap.size 3 (some ⟨wk47.heap.size, 0, none⟩) 5 5 [V131, V144, V149, V162, V174] := ownI_lit (w := wk47) (e := 3) [V131, V144, V149, V162, V174] rfl rfl (Ext.size (w := Wc) hxk47) (by unfold maxLen; omega)
                                          go_simp
                                          refine hKK.out _ _ ?_
                                          clear hKK KK
                                          try simp only [Act.put, List.setIfInBounds_toArray, List.set_cons_zero, List.set_cons_succ]
                                          refine wpAny_done (by kernel_rfl) ?_ _
                                          go_wp2
                                          go_meet
                                          exact ⟨_, BP7.set_ 2 _, hO5.keepBlk BP7 (by decide) ((Only.refl _ _).setCell (by simp) _), ((Ext.alloc hxk47 _).toOnly [gp]).setCell (by simp) _⟩
                                        exact AllReadyL.nil
                                      exact AllReadyL.nil
                                    exact AllReadyL.nil
                                  exact AllReadyL.nil
                                exact AllReadyL.nil
                              exact AllReadyL.nil
                            exact AllReadyL.nil
                          exact AllReadyL.nil
                        exact AllReadyL.nil
                      exact AllReadyL.nil
                    exact AllReadyL.nil
                  exact AllReadyL.nil
                exact AllReadyL.nil
              exact AllReadyL.nil
            exact AllReadyL.nil
          exact AllReadyL.nil
      case' rest =>
      obtain ⟨gl, BPn, h3, ho⟩ := hcut
      have BPc := BP
      clear BP hS
      generalize wc = Wd at *
      have B1d := B1.only ho (by first | (simp; done) | (simp; omega))
      have h2d := h2.keepBlk BPc (by decide) ho
      have L3d := h3.low
      have L2c := h2.low
      have hlit := ownI_lit (w := Wd) (e := 3) [H] rfl rfl (Nat.le_refl _) (by simp only [List.length_cons, List.length_nil]; unfold maxLen; omega)
      have hX := (Ext.refl Wd).alloc (.cells #[.int .i64 H] 3)
      have hsz8 := hX.size
      have hnk : 1 + n ≤ 1000000000 := by omega
      have CC1 := B1d.cells
      have CC2 := BPn.cells
      have CC3 := (BPn.ext hX).cells
      go_wp2_with (at_builtin; refine wpList_appL (n := 1) (m := n) intSl rfl _ _ rfl hlit rfl (h2d.rd.ext hX) h2d.len rfl hnk hsz8 ?_; intro A9 c9 w9 hBf hb9)
      have hE89 : Ext Wd w9 := hX.then hb9 (Nat.le_refl _)
      clear CC1 CC2 CC3 hb9 hlit hX hsz8 h2d B1d
      replace ho := ho.addExt hE89
      replace BPn := BPn.ext hE89
      replace h3 := h3.ext hE89
      have hap0 := Apart.of_low L3d hBf.high
      have hdz := hBf.low
      clear hE89
      rw [show [H] ++ cn = H :: cn from rfl] at hBf
      generalize hkb : 1 + n = kb at *
      have HKB := Lib.hid hkb
      clear hkb L3d
      obtain ⟨Dz, hDz⟩ : ∃ z, Wd.heap.size = z := ⟨_, rfl⟩
      rw [hDz] at hBf
      clear hDz
      have hK0 : pmK p q g key H hs (ou.map Prod.fst) (ou.map Prod.snd) cn xA xB xD xF zW zX n 0 = [V131, V144, V149, V162, V174] := by
        unfold pmK pmA
        rw [K131.out, K137.out, K142.out, K144.out, K149.out, K156.out, K160.out, K162.out, K168.out, K172.out, K174.out]
        rfl
      rw [← hK0] at h3
      clear hK0
      go_wp2
      go_loopw [185] (fun i wr => ∃ (j : Nat) (C3 : Option Addr) (e3 : Nat), j ≤ n ∧ i = .int .i64 j ∧ Blk wr gp 30 #[.slice C1 n e1, .slice C2 n e2, .slice C3 (5 + j) e3, .slice none 0 0, .slice none 0 0] ∧ OwnI wr Wc.heap.size 3 C3 (5 + j) e3 (pmK p q g key H hs (ou.map Prod.fst) (ou.map Prod.snd) cn xA xB xD xF zW zX n j) ∧ OwnI wr Dz 3 A9 kb c9 (H :: cn) ∧ Apart (fpI C3) (fpI A9) ∧ Only [gp] Wc wr) (fun i _ => n - (intOf i).toNat)
      case atStart => exact ⟨0, _, 5, Nat.zero_le _, rfl, BPn, h3, hBf, hap0, ho⟩
      case round =>
        clear BPn h3 hBf hap0 ho hdz
        obtain ⟨j, C3, e3, hj, rfl, BP, h3, hBf, hap, ho⟩ := hrel
        have Er := E.only1 (by omega) ho
        have E6r := E6.only1 (by rw [HGP.out]; exact Nat.le_refl _) ho
        have hoz := ho.size
        have h6z := E6.size
        by_cases hlt : j < n
        · have hjw : j < zW.length := by rw [HLW.out]; exact hlt
          have hjx : j < zX.length := by rw [HLX.out]; exact hlt
          have hjb : j < (H :: cn).length := by rw [hBf.len, ← HKB.out]; omega
          obtain ⟨wd, hWA, hwc⟩ := (rW.ext E0).at_ hjw
          injection hWA with hWA
          subst hWA
          obtain ⟨xd, hXA, hxc⟩ := (rX.ext E0).at_ hjx
          injection hXA with hXA
          subst hXA
          obtain ⟨a9, hA9, hbc⟩ := hBf.rd.at_ hjb
          subst hA9
          have r1 := BW.out _ (List.getElem_mem hjw)
          have r2 := BX.out _ (List.getElem_mem hjx)
          have r3 : 0 ≤ (H :: cn)[j] ∧ (H :: cn)[j] ≤ 3000000000 := by
            rcases List.mem_cons.1 (List.getElem_mem hjb) with h9 | h9
            · rw [h9]; exact hHb
            · exact BCN.out _ h9
          have HPT : Hid (pmT p q g H cn zW zX j = gmul p [gpw p q g zW[j], gpw p q (H :: cn)[j] zX[j]]) := by show _ = _; unfold pmT; rw [getD_lt hjw, getD_lt hjx, getD_lt hjb]
          generalize (H :: cn)[j] = bj at *
          generalize zW[j] = wj at *
          generalize zX[j] = xj at *
          have HPT2 := HPT.out
          obtain ⟨V199, h199⟩ : ∃ v, gpw p q g wj = v := ⟨_, rfl⟩
          have r199 : 0 ≤ V199 ∧ V199 ≤ 2000000000 := by rw [← h199]; exact gpw_rg p q g wj hB
          obtain ⟨V209, h209⟩ : ∃ v, gpw p q bj xj = v := ⟨_, rfl⟩
          have r209 : 0 ≤ V209 ∧ V209 ≤ 2000000000 := by rw [← h209]; exact gpw_rg p q bj xj hB
          obtain ⟨V211, h211⟩ : ∃ v, gmul p [V199, V209] = v := ⟨_, rfl⟩
          rw [h199, h209, h211] at HPT2
          have HST : Hid (pmK p q g key H hs (ou.map Prod.fst) (ou.map Prod.snd) cn xA xB xD xF zW zX n (j + 1) = pmK p q g key H hs (ou.map Prod.fst) (ou.map Prod.snd) cn xA xB xD xF zW zX n j ++ [V211]) := by show _ = _; rw [pmK_succ, HPT2]
          have K199 := Lib.hid h199
          have K209 := Lib.hid h209
          have K211 := Lib.hid h211
          clear h199 h209 h211 HPT2 HPT hjw hjx hjb
          have hjn : (j : Int) < (n : Int) := by omega
          have hjk : (j : Int) < (kb : Int) := by have := HKB.out; omega
          have hj0 : (0 : Int) ≤ (j : Int) := by omega
          have hS : ∀ V, Ext v6 V → Blk V gp 30 #[.slice C1 n e1, .slice C2 n e2, .slice C3 (5 + j) e3, .slice none 0 0, .slice none 0 0] → V.cell? (a9.add j) = some (.int .i64 bj) → V.cell? ⟨w.heap.size, 0, none⟩ = some (.int .i64 p) ∧ V.cell? ⟨w.heap.size, 1, none⟩ = some (.int .i64 q) ∧ V.cell? ⟨w.heap.size, 2, none⟩ = some (.int .i64 g) ∧ V.cell? ⟨gp, 2, none⟩ = some (.slice C3 (5 + j) e3) ∧ V.cell? (b6.add j) = some (.int .i64 wj) ∧ V.cell? (a9.add j) = some (.int .i64 bj) ∧ V.cell? (b7.add j) = some (.int .i64 xj) := fun V hV hP hcc => by
            have a0 := (B06.ext hV).cells
            have a3 := hP.cells
            exact ⟨a0 0, a0 1, a0 2, a3 2, hV.cell hwc, hcc, hV.cell hxc⟩
          go_upto_region 25 with (fail)
          as_aux_lemma =>
            refine wp_region_heldL (S := fun V => V.cell? ⟨w.heap.size, 0, none⟩ = some (.int .i64 p) ∧ V.cell? ⟨w.heap.size, 1, none⟩ = some (.int .i64 q) ∧ V.cell? ⟨w.heap.size, 2, none⟩ = some (.int .i64 g) ∧ V.cell? ⟨gp, 2, none⟩ = some (.slice C3 (5 + j) e3) ∧ V.cell? (b6.add j) = some (.int .i64 wj) ∧ V.cell? (a9.add j) = some (.int .i64 bj) ∧ V.cell? (b7.add j) = some (.int .i64 xj)) 28 (by kernel_rfl) ?_ (fun hHeld => ?_)
            · exact hS _ (by repeat (first | with_reducible assumption | with_reducible exact Ext.refl _ | with_reducible apply Ext.alloc | with_reducible apply Ext.drew | with_reducible apply Ext.drewN)) (by first | assumption | exact Blk.ext BP (by repeat (first | with_reducible assumption | with_reducible exact Ext.refl _ | with_reducible apply Ext.alloc | with_reducible apply Ext.drew | with_reducible apply Ext.drewN))) (by first | assumption | exact Ext.cell (by repeat (first | with_reducible assumption | with_reducible exact Ext.refl _ | with_reducible apply Ext.alloc | with_reducible apply Ext.drew | with_reducible apply Ext.drewN)) hbc)
            refine' wpAnyL_take (i := 0) (v := _) ?hi0 (by kernel_rfl) (by kernel_rfl) (by kernel_rfl) [28] (by kernel_rfl) ?hQ0 ?hy0 (by assumption) ?_
            case hi0 => (simp only [List.getElem?_toArray, List.getElem?_cons_zero]; rfl)
            case hy0 => refine Or.inl ⟨by rfl, ?_⟩; intro w hSw; (try dsimp only at hSw); go_simp <;> with_reducible rfl
            case hQ0 => exact fun _ _ _ h => h
            try simp only [Act.put, List.setIfInBounds_toArray, List.set_cons_zero, List.set_cons_succ]
            refine' wpAnyL_take (i := 1) (v := _) ?hi1 (by kernel_rfl) (by kernel_rfl) (by kernel_rfl) [28] (by kernel_rfl) ?hQ1 ?hy1 (by assumption) ?_
            case hi1 => (simp only [List.getElem?_toArray, List.getElem?_cons_succ, List.getElem?_cons_zero]; rfl)
            case hy1 => refine Or.inl ⟨by rfl, ?_⟩; intro w hSw; (try dsimp only at hSw); go_simp <;> with_reducible rfl
            case hQ1 => exact fun _ _ _ h => h
            try simp only [Act.put, List.setIfInBounds_toArray, List.set_cons_zero, List.set_cons_succ]
            refine' wpAnyL_take (i := 2) (v := _) ?hi2 (by kernel_rfl) (by kernel_rfl) (by kernel_rfl) [28] (by kernel_rfl) ?hQ2 ?hy2 (by assumption) ?_
            case hi2 => (simp only [List.getElem?_toArray, List.getElem?_cons_succ, List.getElem?_cons_zero]; rfl)
            case hy2 => refine Or.inl ⟨by rfl, ?_⟩; intro w hSw; (try dsimp only at hSw); go_simp <;> with_reducible rfl
            case hQ2 => exact fun _ _ _ h => h
            try simp only [Act.put, List.setIfInBounds_toArray, List.set_cons_zero, List.set_cons_succ]
            refine' wpAnyL_take (i := 3) (v := _) ?hi3 (by kernel_rfl) (by kernel_rfl) (by kernel_rfl) [28] (by kernel_rfl) ?hQ3 ?hy3 (by assumption) ?_
            case hi3 => (simp only [List.getElem?_toArray, List.getElem?_cons_succ, List.getElem?_cons_zero]; rfl)
            case hy3 => refine Or.inl ⟨by rfl, ?_⟩; intro w hSw; (try dsimp only at hSw); go_simp <;> with_reducible rfl
            case hQ3 => exact fun _ _ _ h => h
            try simp only [Act.put, List.setIfInBounds_toArray, List.set_cons_zero, List.set_cons_succ]
            refine' wpAnyL_take (i := 4) (v := _) ?hi4 (by kernel_rfl) (by kernel_rfl) (by kernel_rfl) [28] (by kernel_rfl) ?hQ4 ?hy4 (by assumption) ?_
            case hi4 => (simp only [List.getElem?_toArray, List.getElem?_cons_succ, List.getElem?_cons_zero]; rfl)
            case hy4 => refine Or.inl ⟨by rfl, ?_⟩; intro w hSw; (try dsimp only at hSw); go_simp <;> with_reducible rfl
            case hQ4 => exact fun _ _ _ h => h
            try simp only [Act.put, List.setIfInBounds_toArray, List.set_cons_zero, List.set_cons_succ]
            refine' wpAnyL_take (i := 5) (v := _) ?hi5 (by kernel_rfl) (by kernel_rfl) (by kernel_rfl) [28] (by kernel_rfl) ?hQ5 ?hy5 (by assumption) ?_
            case hi5 => (simp only [List.getElem?_toArray, List.getElem?_cons_succ, List.getElem?_cons_zero]; rfl)
            case hy5 => refine Or.inl ⟨by rfl, ?_⟩; intro w hSw; (try dsimp only at hSw); go_simp <;> with_reducible rfl
            case hQ5 => exact fun _ _ _ h => h
            try simp only [Act.put, List.setIfInBounds_toArray, List.set_cons_zero, List.set_cons_succ]
            refine' wpAnyL_take (i := 6) (v := _) ?hi6 (by kernel_rfl) (by kernel_rfl) (by kernel_rfl) [28] (by kernel_rfl) ?hQ6 ?hy6 (by assumption) ?_
            case hi6 => (simp only [List.getElem?_toArray, List.getElem?_cons_succ, List.getElem?_cons_zero]; rfl)
            case hy6 => refine Or.inl ⟨by rfl, ?_⟩; intro w hSw; (try dsimp only at hSw); go_simp <;> with_reducible rfl
            case hQ6 => exact fun _ _ _ h => h
            try simp only [Act.put, List.setIfInBounds_toArray, List.set_cons_zero, List.set_cons_succ]
            refine' wpAnyL_take (i := 7) (v := _) ?hi7 (by kernel_rfl) (by kernel_rfl) (by kernel_rfl) [28] (by kernel_rfl) ?hQ7 ?hy7 (by assumption) ?_
            case hi7 => (simp only [List.getElem?_toArray, List.getElem?_cons_succ, List.getElem?_cons_zero]; rfl)
            case hy7 => refine Or.inl ⟨by rfl, ?_⟩; intro w hSw; (try dsimp only at hSw); go_simp <;> with_reducible rfl
            case hQ7 => exact fun _ _ _ h => h
            try simp only [Act.put, List.setIfInBounds_toArray, List.set_cons_zero, List.set_cons_succ]
            refine' wpAnyL_take (i := 8) (v := _) ?hi8 (by kernel_rfl) (by kernel_rfl) (by kernel_rfl) [28] (by kernel_rfl) ?hQ8 ?hy8 (by assumption) ?_
            case hi8 => (simp only [List.getElem?_toArray, List.getElem?_cons_succ, List.getElem?_cons_zero]; rfl)
            case hy8 => refine Or.inl ⟨by rfl, ?_⟩; intro w hSw; (try dsimp only at hSw); go_simp <;> with_reducible rfl
            case hQ8 => exact fun _ _ _ h => h
            try simp only [Act.put, List.setIfInBounds_toArray, List.set_cons_zero, List.set_cons_succ]
            refine' wpAnyL_take (i := 9) (v := _) ?hi9 (by kernel_rfl) (by kernel_rfl) (by kernel_rfl) [28] (by kernel_rfl) ?hQ9 ?hy9 (by assumption) ?_
            case hi9 => (simp only [List.getElem?_toArray, List.getElem?_cons_succ, List.getElem?_cons_zero]; rfl)
            case hy9 => refine Or.inl ⟨by rfl, ?_⟩; intro w hSw; (try dsimp only at hSw); go_simp <;> with_reducible rfl
            case hQ9 => exact fun _ _ _ h => h
            try simp only [Act.put, List.setIfInBounds_toArray, List.set_cons_zero, List.set_cons_succ]
            refine' wpAnyL_take (i := 10) (v := _) ?hi10 (by kernel_rfl) (by kernel_rfl) (by kernel_rfl) [28] (by kernel_rfl) ?hQ10 ?hy10 (by assumption) ?_
            case hi10 => (simp only [List.getElem?_toArray, List.getElem?_cons_succ, List.getElem?_cons_zero]; rfl)
            case hy10 => refine Or.inl ⟨by rfl, ?_⟩; intro w hSw; (try dsimp only at hSw); go_simp <;> with_reducible rfl
            case hQ10 => exact fun _ _ _ h => h
            try simp only [Act.put, List.setIfInBounds_toArray, List.set_cons_zero, List.set_cons_succ]
            refine' wpAnyL_take (i := 12) (v := _) ?hi12 (by kernel_rfl) (by kernel_rfl) (by kernel_rfl) [28] (by kernel_rfl) ?hQ12 ?hy12 (by assumption) ?_
            case hi12 => (simp only [List.getElem?_toArray, List.getElem?_cons_succ, List.getElem?_cons_zero]; rfl)
            case hy12 => refine Or.inl ⟨by rfl, ?_⟩; intro w hSw; (try dsimp only at hSw); go_simp <;> with_reducible rfl
            case hQ12 => exact fun _ _ _ h => h
            try simp only [Act.put, List.setIfInBounds_toArray, List.set_cons_zero, List.set_cons_succ]
            refine' wpAnyL_take (i := 13) (v := _) ?hi13 (by kernel_rfl) (by kernel_rfl) (by kernel_rfl) [28] (by kernel_rfl) ?hQ13 ?hy13 (by assumption) ?_
            case hi13 => (simp only [List.getElem?_toArray, List.getElem?_cons_succ, List.getElem?_cons_zero]; rfl)
            case hy13 => refine Or.inl ⟨by rfl, ?_⟩; intro w hSw; (try dsimp only at hSw); go_simp <;> with_reducible rfl
            case hQ13 => exact fun _ _ _ h => h
            try simp only [Act.put, List.setIfInBounds_toArray, List.set_cons_zero, List.set_cons_succ]
            refine' wpAnyL_take (i := 14) (v := _) ?hi14 (by kernel_rfl) (by kernel_rfl) (by kernel_rfl) [28] (by kernel_rfl) ?hQ14 ?hy14 (by assumption) ?_
            case hi14 => (simp only [List.getElem?_toArray, List.getElem?_cons_succ, List.getElem?_cons_zero]; rfl)
            case hy14 => refine Or.inl ⟨by rfl, ?_⟩; intro w hSw; (try dsimp only at hSw); go_simp <;> with_reducible rfl
            case hQ14 => exact fun _ _ _ h => h
            try simp only [Act.put, List.setIfInBounds_toArray, List.set_cons_zero, List.set_cons_succ]
            refine' wpAnyL_take (i := 15) (v := _) ?hi15 (by kernel_rfl) (by kernel_rfl) (by kernel_rfl) [28] (by kernel_rfl) ?hQ15 ?hy15 (by assumption) ?_
            case hi15 => (simp only [List.getElem?_toArray, List.getElem?_cons_succ, List.getElem?_cons_zero]; rfl)
            case hy15 => refine Or.inl ⟨by rfl, ?_⟩; intro w hSw; (try dsimp only at hSw); go_simp <;> with_reducible rfl
            case hQ15 => exact fun _ _ _ h => h
            try simp only [Act.put, List.setIfInBounds_toArray, List.set_cons_zero, List.set_cons_succ]
            refine' wpAnyL_take (i := 16) (v := _) ?hi16 (by kernel_rfl) (by kernel_rfl) (by kernel_rfl) [28] (by kernel_rfl) ?hQ16 ?hy16 (by assumption) ?_
            case hi16 => (simp only [List.getElem?_toArray, List.getElem?_cons_succ, List.getElem?_cons_zero]; rfl)
            case hy16 => refine Or.inl ⟨by rfl, ?_⟩; intro w hSw; (try dsimp only at hSw); go_simp <;> with_reducible rfl
            case hQ16 => exact fun _ _ _ h => h
            try simp only [Act.put, List.setIfInBounds_toArray, List.set_cons_zero, List.set_cons_succ]
            refine' wpAnyL_take (i := 17) (v := _) ?hi17 (by kernel_rfl) (by kernel_rfl) (by kernel_rfl) [28] (by kernel_rfl) ?hQ17 ?hy17 (by assumption) ?_
            case hi17 => (simp only [List.getElem?_toArray, List.getElem?_cons_succ, List.getElem?_cons_zero]; rfl)
            case hy17 => refine Or.inl ⟨by rfl, ?_⟩; intro w hSw; (try dsimp only at hSw); go_simp <;> with_reducible rfl
            case hQ17 => exact fun _ _ _ h => h
            try simp only [Act.put, List.setIfInBounds_toArray, List.set_cons_zero, List.set_cons_succ]
            refine' wpAnyL_take (i := 18) (v := _) ?hi18 (by kernel_rfl) (by kernel_rfl) (by kernel_rfl) [28] (by kernel_rfl) ?hQ18 ?hy18 (by assumption) ?_
            case hi18 => (simp only [List.getElem?_toArray, List.getElem?_cons_succ, List.getElem?_cons_zero]; rfl)
            case hy18 => refine Or.inl ⟨by rfl, ?_⟩; intro w hSw; (try dsimp only at hSw); go_simp <;> with_reducible rfl
            case hQ18 => exact fun _ _ _ h => h
            try simp only [Act.put, List.setIfInBounds_toArray, List.set_cons_zero, List.set_cons_succ]
            refine' wpAnyL_take (i := 19) (v := _) ?hi19 (by kernel_rfl) (by kernel_rfl) (by kernel_rfl) [28] (by kernel_rfl) ?hQ19 ?hy19 (by assumption) ?_
            case hi19 => (simp only [List.getElem?_toArray, List.getElem?_cons_succ, List.getElem?_cons_zero]; rfl)
            case hy19 => refine Or.inl ⟨by rfl, ?_⟩; intro w hSw; (try dsimp only at hSw); go_simp <;> with_reducible rfl
            case hQ19 => exact fun _ _ _ h => h
            try simp only [Act.put, List.setIfInBounds_toArray, List.set_cons_zero, List.set_cons_succ]
            refine' wpAnyL_take (i := 20) (v := _) ?hi20 (by kernel_rfl) (by kernel_rfl) (by kernel_rfl) [28] (by kernel_rfl) ?hQ20 ?hy20 (by assumption) ?_
            case hi20 => (simp only [List.getElem?_toArray, List.getElem?_cons_succ, List.getElem?_cons_zero]; rfl)
            case hy20 => refine Or.inl ⟨by rfl, ?_⟩; intro w hSw; (try dsimp only at hSw); go_simp <;> with_reducible rfl
            case hQ20 => exact fun _ _ _ h => h
            try simp only [Act.put, List.setIfInBounds_toArray, List.set_cons_zero, List.set_cons_succ]
            refine wpAnyL_ready (rs := [11]) (by kernel_rfl) (by simp) ?_
            refine AllReadyL.cons rfl (by kernel_rfl) (fun KK hKK => ?_) ?_
            · go_simp
              go_at_call 68
              refine (pow_any p q g g wj _ hB (by omega) (by omega) (by omega) (by omega)).mono ?_
              rintro ek wk11 ⟨hek, hbk11⟩
              rw [K199.out] at hek; subst hek
              have hxk11 := Ext.trans (w := v6) (by repeat (first | with_reducible assumption | with_reducible exact Ext.refl _ | with_reducible apply Ext.alloc | with_reducible apply Ext.drew | with_reducible apply Ext.drewN)) hbk11
              have hyk11 := Ext.trans (w := wr) (by repeat (first | with_reducible assumption | with_reducible exact Ext.refl _ | with_reducible apply Ext.alloc | with_reducible apply Ext.drew | with_reducible apply Ext.drewN)) hbk11
              refine hKK.out _ _ ?_ (fun hHeld => ?_)
              · exact hS _ (by repeat (first | with_reducible assumption | with_reducible exact Ext.refl _ | with_reducible apply Ext.alloc | with_reducible apply Ext.drew | with_reducible apply Ext.drewN)) (by first | assumption | exact Blk.ext BP (by repeat (first | with_reducible assumption | with_reducible exact Ext.refl _ | with_reducible apply Ext.alloc | with_reducible apply Ext.drew | with_reducible apply Ext.drewN))) (by first | assumption | exact Ext.cell (by repeat (first | with_reducible assumption | with_reducible exact Ext.refl _ | with_reducible apply Ext.alloc | with_reducible apply Ext.drew | with_reducible apply Ext.drewN)) hbc)
              clear hKK KK
              try simp only [Act.put, List.setIfInBounds_toArray, List.set_cons_zero, List.set_cons_succ]
              refine wpAnyL_ready (rs := [21]) (by kernel_rfl) (by simp) ?_
              refine AllReadyL.cons rfl (by kernel_rfl) (fun KK hKK => ?_) ?_
              · go_simp
                go_at_call 68
                refine (pow_any p q g bj xj _ hB (by omega) (by omega) (by omega) (by omega)).mono ?_
                rintro ek wk21 ⟨hek, hbk21⟩
                rw [K209.out] at hek; subst hek
                have hxk21 := Ext.trans (w := v6) (by repeat (first | with_reducible assumption | with_reducible exact Ext.refl _ | with_reducible apply Ext.alloc | with_reducible apply Ext.drew | with_reducible apply Ext.drewN)) hbk21
                have hyk21 := Ext.trans (w := wr) (by repeat (first | with_reducible assumption | with_reducible exact Ext.refl _ | with_reducible apply Ext.alloc | with_reducible apply Ext.drew | with_reducible apply Ext.drewN)) hbk21
                refine hKK.out _ _ ?_ (fun hHeld => ?_)
                · exact hS _ (by repeat (first | with_reducible assumption | with_reducible exact Ext.refl _ | with_reducible apply Ext.alloc | with_reducible apply Ext.drew | with_reducible apply Ext.drewN)) (by first | assumption | exact Blk.ext BP (by repeat (first | with_reducible assumption | with_reducible exact Ext.refl _ | with_reducible apply Ext.alloc | with_reducible apply Ext.drew | with_reducible apply Ext.drewN))) (by first | assumption | exact Ext.cell (by repeat (first | with_reducible assumption | with_reducible exact Ext.refl _ | with_reducible apply Ext.alloc | with_reducible apply Ext.drew | with_reducible apply Ext.drewN)) hbc)
                clear hKK KK
                try simp only [Act.put, List.setIfInBounds_toArray, List.set_cons_zero, List.set_cons_succ]
                refine wpAnyL_ready (rs := [22]) (by kernel_rfl) (by simp) ?_
                refine AllReadyL.cons rfl (by kernel_rfl) (fun KK hKK => ?_) ?_
                · go_simp
                  refine hKK.out _ _ ?_ (fun hHeld => ?_)
                  · exact hS _ (by repeat (first | with_reducible assumption | with_reducible exact Ext.refl _ | with_reducible apply Ext.alloc | with_reducible apply Ext.drew | with_reducible apply Ext.drewN)) (by first | assumption | exact Blk.ext BP (by repeat (first | with_reducible assumption | with_reducible exact Ext.refl _ | with_reducible apply Ext.alloc | with_reducible apply Ext.drew | with_reducible apply Ext.drewN))) (by first | assumption | exact Ext.cell (by repeat (first | with_reducible assumption | with_reducible exact Ext.refl _ | with_reducible apply Ext.alloc | with_reducible apply Ext.drew | with_reducible apply Ext.drewN)) hbc)
                  clear hKK KK
                  try simp only [Act.put, List.setIfInBounds_toArray, List.set_cons_zero, List.set_cons_succ]
                  refine wpAnyL_ready (rs := [23]) (by kernel_rfl) (by simp) ?_
                  refine AllReadyL.cons rfl (by kernel_rfl) (fun KK hKK => ?_) ?_
                  · go_simp
                    go_at_call 69
                    refine (mul_any p q g _ 2 2 [V199, V209] _ hB (rd_twoV (w := wk21) rfl (by repeat (first | with_reducible assumption | with_reducible exact Ext.refl _ | with_reducible apply Ext.alloc | with_reducible apply Ext.drew | with_reducible apply Ext.drewN))) rfl (by decide) (two_rg (by omega) (by omega))).mono ?_
                    rintro ek wk23 ⟨hek, hbk23⟩
                    rw [K211.out] at hek; subst hek
                    have hxk23 := Ext.trans (w := v6) (by repeat (first | with_reducible assumption | with_reducible exact Ext.refl _ | with_reducible apply Ext.alloc | with_reducible apply Ext.drew | with_reducible apply Ext.drewN)) hbk23
                    have hyk23 := Ext.trans (w := wr) (by repeat (first | with_reducible assumption | with_reducible exact Ext.refl _ | with_reducible apply Ext.alloc | with_reducible apply Ext.drew | with_reducible apply Ext.drewN)) hbk23
                    refine hKK.out _ _ ?_ (fun hHeld => ?_)
                    · exact hS _ (by repeat (first | with_reducible assumption | with_reducible exact Ext.refl _ | with_reducible apply Ext.alloc | with_reducible apply Ext.drew | with_reducible apply Ext.drewN)) (by first | assumption | exact Blk.ext BP (by repeat (first | with_reducible assumption | with_reducible exact Ext.refl _ | with_reducible apply Ext.alloc | with_reducible apply Ext.drew | with_reducible apply Ext.drewN))) (by first | assumption | exact Ext.cell (by repeat (first | with_reducible assumption | with_reducible exact Ext.refl _ | with_reducible apply Ext.alloc | with_reducible apply Ext.drew | with_reducible apply Ext.drewN)) hbc)
                    clear hKK KK
                    try simp only [Act.put, List.setIfInBounds_toArray, List.set_cons_zero, List.set_cons_succ]
                    refine wpAnyL_ready (rs := [24]) (by kernel_rfl) (by simp) ?_
                    refine AllReadyL.cons rfl (by kernel_rfl) (fun KK hKK => ?_) ?_
                    · go_simp
                      refine hKK.out _ _ ?_ (fun hHeld => ?_)
                      · exact hS _ (by repeat (first | with_reducible assumption | with_reducible exact Ext.refl _ | with_reducible apply Ext.alloc | with_reducible apply Ext.drew | with_reducible apply Ext.drewN)) (by first | assumption | exact Blk.ext BP (by repeat (first | with_reducible assumption | with_reducible exact Ext.refl _ | with_reducible apply Ext.alloc | with_reducible apply Ext.drew | with_reducible apply Ext.drewN))) (by first | assumption | exact Ext.cell (by repeat (first | with_reducible assumption | with_reducible exact Ext.refl _ | with_reducible apply Ext.alloc | with_reducible apply Ext.drew | with_reducible apply Ext.drewN)) hbc)
                      clear hKK KK
                      try simp only [Act.put, List.setIfInBounds_toArray, List.set_cons_zero, List.set_cons_succ]
                      refine wpAnyL_ready (rs := [25]) (by kernel_rfl) (by simp) ?_
                      refine AllReadyL.cons rfl (by kernel_rfl) (fun KK hKK => ?_) ?_
                      · refine step_app1L intSl (by rfl) _ _ (by rfl) (h3.ext (by repeat (first | with_reducible assumption | with_reducible exact Ext.refl _ | with_reducible apply Ext.alloc | with_reducible apply Ext.drew | with_reducible apply Ext.drewN))) (by rfl) _ (by rfl) (cell_new (w := wk23) (by first | rfl | (simp; done)) (by repeat (first | with_reducible assumption | with_reducible exact Ext.refl _ | with_reducible apply Ext.alloc | with_reducible apply Ext.drew | with_reducible apply Ext.drewN))) (by omega) (Nat.le_trans hoz (Ext.size (w := wr) (by repeat (first | with_reducible assumption | with_reducible exact Ext.refl _ | with_reducible apply Ext.alloc | with_reducible apply Ext.drew | with_reducible apply Ext.drewN)))) ?_
                        intro V3 d2 w3 hV3 hon2 hli2
                        have hx3 := Ext.only (w := v6) (by repeat (first | with_reducible assumption | with_reducible exact Ext.refl _ | with_reducible apply Ext.alloc | with_reducible apply Ext.drew | with_reducible apply Ext.drewN)) hon2 (h3.high.mono h6z)
                        have BP7 := Blk.only (Blk.ext BP (by repeat (first | with_reducible assumption | with_reducible exact Ext.refl _ | with_reducible apply Ext.alloc | with_reducible apply Ext.drew | with_reducible apply Ext.drewN))) hon2 (Blk.off_own BP h3.w (by decide))
                        have hc7 := hon2.cellK (Ext.cell (w := wr) (by repeat (first | with_reducible assumption | with_reducible exact Ext.refl _ | with_reducible apply Ext.alloc | with_reducible apply Ext.drew | with_reducible apply Ext.drewN)) hbc) (by rw [show (a9.add j).block = a9.block from blk_add _ _]; exact fun hh => hap _ hh (by simp [fpI]))
                        have ho7 := (Only.addHigh (Only.addExt ho (by repeat (first | with_reducible assumption | with_reducible exact Ext.refl _ | with_reducible apply Ext.alloc | with_reducible apply Ext.drew | with_reducible apply Ext.drewN))) hon2 h3.high)
                        have hBf3 := OwnI.only (OwnI.ext hBf (by repeat (first | with_reducible assumption | with_reducible exact Ext.refl _ | with_reducible apply Ext.alloc | with_reducible apply Ext.drew | with_reducible apply Ext.drewN))) hon2 hap.symm
                        have hap3 : Apart (fpI V3) (fpI (some a9)) := hap.app (OwnI.ext hBf (by repeat (first | with_reducible assumption | with_reducible exact Ext.refl _ | with_reducible apply Ext.alloc | with_reducible apply Ext.drew | with_reducible apply Ext.drewN))).low hli2
                        have hBf4 := hBf3.keepBlk BP7 (by decide) ((Only.refl _ _).setCell (p := ⟨gp, 2, none⟩) (by simp) (.slice V3 (5 + j + 1) d2))
                        refine hKK.out _ _ ?_ (fun hHeld => ?_)
                        · exact hS _ (by repeat (first | with_reducible assumption | with_reducible exact Ext.refl _ | with_reducible apply Ext.alloc | with_reducible apply Ext.drew | with_reducible apply Ext.drewN)) (by first | assumption | exact Blk.ext BP (by repeat (first | with_reducible assumption | with_reducible exact Ext.refl _ | with_reducible apply Ext.alloc | with_reducible apply Ext.drew | with_reducible apply Ext.drewN))) (by first | assumption | exact Ext.cell (by repeat (first | with_reducible assumption | with_reducible exact Ext.refl _ | with_reducible apply Ext.alloc | with_reducible apply Ext.drew | with_reducible apply Ext.drewN)) hbc)
                        clear hKK KK
                        try simp only [List.getElem_toArray, List.getElem_cons_succ, List.getElem_cons_zero]
                        try simp only [Act.put, List.setIfInBounds_toArray, List.set_cons_zero, List.set_cons_succ]
                        refine' wpAnyL_take (i := 26) (v := _) ?hi26 (by kernel_rfl) (by kernel_rfl) (by kernel_rfl) [27, 28] (by kernel_rfl) ?hQ26 ?hy26 (by assumption) ?_
                        case hi26 => (simp only [List.getElem?_toArray, List.getElem?_cons_succ, List.getElem?_cons_zero]; rfl)
                        case hy26 => refine Or.inl ⟨by rfl, ?_⟩; intro w hSw; (try dsimp only at hSw); go_simp <;> with_reducible rfl
                        case hQ26 => exact fun _ _ _ h => h
                        try simp only [Act.put, List.setIfInBounds_toArray, List.set_cons_zero, List.set_cons_succ]
                        refine' wpAnyL_take (i := 27) (v := _) ?hi27 (by kernel_rfl) (by kernel_rfl) (by kernel_rfl) [28] (by kernel_rfl) ?hQ27 ?hy27 (by assumption) ?_
                        case hi27 => (simp only [List.getElem?_toArray, List.getElem?_cons_succ, List.getElem?_cons_zero]; rfl)
                        case hy27 => refine Or.inl ⟨by rfl, ?_⟩; intro w hSw; (try dsimp only at hSw); go_simp <;> with_reducible rfl
                        case hQ27 => exact fun _ _ _ h => h
                        try simp only [Act.put, List.setIfInBounds_toArray, List.set_cons_zero, List.set_cons_succ]
                        refine wpAnyL_ready (rs := [28]) (by kernel_rfl) (by simp) ?_
                        refine AllReadyL.last rfl (by kernel_rfl) (fun KK hKK => ?_) ?_
                        · have FN := BP7.frozen
                          have CN := BP7.cells
                          go_simp
                          refine hKK.out _ _ ?_
                          clear hKK KK
                          try simp only [Act.put, List.setIfInBounds_toArray, List.set_cons_zero, List.set_cons_succ]
                          refine wpAny_done (by kernel_rfl) ?_ _
                          have hV4 := hV3.keepBlk BP7 (by decide) ((Only.refl _ _).setCell (p := ⟨gp, 2, none⟩) (by simp) (.slice V3 (5 + j + 1) d2))
                          rw [← HST.out] at hV4
                          go_wp2
                          go_roundw
                          case rel => exact ⟨j + 1, V3, d2, by omega, by go_num, BP7.set_ 2 _, hV4, hBf4, hap3, ho7.setCell (by simp) _⟩
                          case measure => first | (simp [intOf]; done) | (simp [intOf]; omega)
                        exact AllReadyL.nil
                      exact AllReadyL.nil
                    exact AllReadyL.nil
                  exact AllReadyL.nil
                exact AllReadyL.nil
              exact AllReadyL.nil
            exact AllReadyL.nil
        · obtain rfl : n = j := by omega
          obtain ⟨cm, hcm⟩ : ∃ l, pmK p q g key H hs (ou.map Prod.fst) (ou.map Prod.snd) cn xA xB xD xF zW zX n n = l := ⟨_, rfl⟩
          have hcmr : ∀ x ∈ cm, 0 ≤ x ∧ x ≤ 3000000000 := by rw [← hcm]; exact pmK_rg hB g key H hs _ _ cn xA xB xD xF zW zX n n
          rw [hcm] at h3
          have HCM := Lib.hid hcm
          have BCM := Lib.hid hcmr
          clear hcm hcmr hlt hBf hap
          have hU := hU.keepBlk BPc (by decide) ho
          have h2r := h2.keepBlk BPc (by decide) ho
          have B0r := B0.only ho (by first | (simp; done) | (simp; omega))
          have h3l : cm.length = 5 + n := h3.len
          obtain ⟨hck2, hcr2⟩ := pv_ch (p := p) (q := q) (g := g) HG.out (mlL_rg hkb BA2.out BOU.out BCO.out) (by rw [HA.out]; exact an12) (by rw [HOL.out]; exact an12) (by rw [HCL.out]; exact an12) BCN.out (by rw [HNL.out]; exact an12) BCM.out (by rw [h3l]; omega)
          have HCK2 := Lib.hid hck2
          obtain ⟨z, hz⟩ : ∃ z, vmZ p q g key a ou co cn cm = z := ⟨_, rfl⟩
          have hzr : 0 ≤ z ∧ z ≤ q - 1 := by have := chV_rg HG.out endS (mlL key a ou co ++ cn ++ cm); rw [← hz]; unfold vmZ; omega
          have HZ := Lib.hid hz
          have hmlen : (mlL key a ou co).length ≤ 100 := by rw [mlL_length, HA.out, HOL.out, HCL.out]; omega
          have htot : tot [mlL key a ou co, cn, cm] ≤ 200 := by have h8 := HNL.out; simp only [tot, List.map_cons, List.map_nil, List.sum_cons, List.sum_nil]; omega
          clear hck2 hcr2 hz h3l
          generalize wr = W7 at *
          have hS : ∀ V, Ext W7 V → V.cell? ⟨w.heap.size, 0, none⟩ = some (.int .i64 p) ∧ V.cell? ⟨w.heap.size, 1, none⟩ = some (.int .i64 q) ∧ V.cell? ⟨w.heap.size, 2, none⟩ = some (.int .i64 g) ∧ V.cell? ⟨gp, 1, none⟩ = some (.slice C2 n e2) ∧ V.cell? ⟨gp, 2, none⟩ = some (.slice C3 (5 + n) e3) := fun V hV => by
            have a0 := (B0r.ext hV).cells
            have a3 := (BP.ext hV).cells
            exact ⟨a0 0, a0 1, a0 2, a3 1, a3 2⟩
          go_upto_region 27 with (fail)
          go_cut [38, 30] from 217 to 229 (fun c0 c1 wx => c0 = .int .i64 z ∧ c1 = .bool true ∧ Ext W7 wx)
          case first =>
            as_aux_lemma =>
              refine wp_region_held_drew (S := fun V => V.cell? ⟨w.heap.size, 0, none⟩ = some (.int .i64 p) ∧ V.cell? ⟨w.heap.size, 1, none⟩ = some (.int .i64 q) ∧ V.cell? ⟨w.heap.size, 2, none⟩ = some (.int .i64 g) ∧ V.cell? ⟨gp, 1, none⟩ = some (.slice C2 n e2) ∧ V.cell? ⟨gp, 2, none⟩ = some (.slice C3 (5 + n) e3)) (by kernel_rfl) ?_ (fun hHeld => ?_)
              · exact hS _ (by repeat (first | with_reducible assumption | with_reducible exact Ext.refl _ | with_reducible apply Ext.alloc | with_reducible apply Ext.drew | with_reducible apply Ext.drewN))
              refine' wpAnyH_take (i := 0) (v := _) ?hi0 (by kernel_rfl) (by kernel_rfl) (by kernel_rfl) ?hQ0 ?hy0 (by assumption) ?_
              case hi0 => (simp only [List.getElem?_toArray, List.getElem?_cons_zero]; rfl)
              case hy0 => refine Or.inl ⟨by rfl, ?_⟩; intro w hSw; (try dsimp only at hSw); go_simp <;> with_reducible rfl
              case hQ0 => exact fun _ _ _ h => h
              try simp only [Act.put, List.setIfInBounds_toArray, List.set_cons_zero, List.set_cons_succ]
              refine' wpAnyH_take (i := 1) (v := _) ?hi1 (by kernel_rfl) (by kernel_rfl) (by kernel_rfl) ?hQ1 ?hy1 (by assumption) ?_
              case hi1 => (simp only [List.getElem?_toArray, List.getElem?_cons_succ, List.getElem?_cons_zero]; rfl)
              case hy1 => refine Or.inl ⟨by rfl, ?_⟩; intro w hSw; (try dsimp only at hSw); go_simp <;> with_reducible rfl
              case hQ1 => exact fun _ _ _ h => h
              try simp only [Act.put, List.setIfInBounds_toArray, List.set_cons_zero, List.set_cons_succ]
              refine' wpAnyH_take (i := 2) (v := _) ?hi2 (by kernel_rfl) (by kernel_rfl) (by kernel_rfl) ?hQ2 ?hy2 (by assumption) ?_
              case hi2 => (simp only [List.getElem?_toArray, List.getElem?_cons_succ, List.getElem?_cons_zero]; rfl)
              case hy2 => refine Or.inl ⟨by rfl, ?_⟩; intro w hSw; (try dsimp only at hSw); go_simp <;> with_reducible rfl
              case hQ2 => exact fun _ _ _ h => h
              try simp only [Act.put, List.setIfInBounds_toArray, List.set_cons_zero, List.set_cons_succ]
              refine' wpAnyH_take (i := 3) (v := _) ?hi3 (by kernel_rfl) (by kernel_rfl) (by kernel_rfl) ?hQ3 ?hy3 (by assumption) ?_
              case hi3 => (simp only [List.getElem?_toArray, List.getElem?_cons_succ, List.getElem?_cons_zero]; rfl)
              case hy3 => refine Or.inl ⟨by rfl, ?_⟩; intro w hSw; (try dsimp only at hSw); go_simp <;> with_reducible rfl
              case hQ3 => exact fun _ _ _ h => h
              try simp only [Act.put, List.setIfInBounds_toArray, List.set_cons_zero, List.set_cons_succ]
              refine' wpAnyH_take (i := 4) (v := _) ?hi4 (by kernel_rfl) (by kernel_rfl) (by kernel_rfl) ?hQ4 ?hy4 (by assumption) ?_
              case hi4 => (simp only [List.getElem?_toArray, List.getElem?_cons_succ, List.getElem?_cons_zero]; rfl)
              case hy4 => refine Or.inl ⟨by rfl, ?_⟩; intro w hSw; (try dsimp only at hSw); go_simp <;> with_reducible rfl
              case hQ4 => exact fun _ _ _ h => h
              try simp only [Act.put, List.setIfInBounds_toArray, List.set_cons_zero, List.set_cons_succ]
              refine' wpAnyH_take (i := 5) (v := _) ?hi5 (by kernel_rfl) (by kernel_rfl) (by kernel_rfl) ?hQ5 ?hy5 (by assumption) ?_
              case hi5 => (simp only [List.getElem?_toArray, List.getElem?_cons_succ, List.getElem?_cons_zero]; rfl)
              case hy5 => refine Or.inl ⟨by rfl, ?_⟩; intro w hSw; (try dsimp only at hSw); go_simp <;> with_reducible rfl
              case hQ5 => exact fun _ _ _ h => h
              try simp only [Act.put, List.setIfInBounds_toArray, List.set_cons_zero, List.set_cons_succ]
              refine' wpAnyH_take (i := 6) (v := _) ?hi6 (by kernel_rfl) (by kernel_rfl) (by kernel_rfl) ?hQ6 ?hy6 (by assumption) ?_
              case hi6 => (simp only [List.getElem?_toArray, List.getElem?_cons_succ, List.getElem?_cons_zero]; rfl)
              case hy6 => refine Or.inl ⟨by rfl, ?_⟩; intro w hSw; (try dsimp only at hSw); go_simp <;> with_reducible rfl
              case hQ6 => exact fun _ _ _ h => h
              try simp only [Act.put, List.setIfInBounds_toArray, List.set_cons_zero, List.set_cons_succ]
              refine wpAnyH_ready (rs := [7]) (by kernel_rfl) (by simp) ?_
              refine AllReadyH.cons rfl (fun KK hKK => ?_) ?_
              · go_simp
                refine hKK.out _ _ ?_ (fun hHeld => ?_)
                · exact hS _ (by repeat (first | with_reducible assumption | with_reducible exact Ext.refl _ | with_reducible apply Ext.alloc | with_reducible apply Ext.drew | with_reducible apply Ext.drewN))
                clear hKK KK
                try simp only [Act.put, List.setIfInBounds_toArray, List.set_cons_zero, List.set_cons_succ]
                refine wpAnyH_ready (rs := [8]) (by kernel_rfl) (by simp) ?_
                refine AllReadyH.cons rfl (fun KK hKK => ?_) ?_
                · go_simp
                  go_at_call 72
                  refine (Concat_any _ 3 3 [mlL key a ou co, cn, cm] _ (rdSS_lit3 (w := W7) (by first | rfl | (simp; done)) (by repeat (first | with_reducible assumption | with_reducible exact Ext.refl _ | with_reducible apply Ext.alloc | with_reducible apply Ext.drew | with_reducible apply Ext.drewN)) (hU.sl.ext (by repeat (first | with_reducible assumption | with_reducible exact Ext.refl _ | with_reducible apply Ext.alloc | with_reducible apply Ext.drew | with_reducible apply Ext.drewN))) (h2r.sl.ext (by repeat (first | with_reducible assumption | with_reducible exact Ext.refl _ | with_reducible apply Ext.alloc | with_reducible apply Ext.drew | with_reducible apply Ext.drewN))) (h3.sl.ext (by repeat (first | with_reducible assumption | with_reducible exact Ext.refl _ | with_reducible apply Ext.alloc | with_reducible apply Ext.drew | with_reducible apply Ext.drewN)))) rfl (by omega) (by omega)).mono ?_
                  rintro ek wk8 ⟨K8, d8, rfl, hO8, hbk8⟩
                  have hxk8 := Ext.trans (w := W7) (by repeat (first | with_reducible assumption | with_reducible exact Ext.refl _ | with_reducible apply Ext.alloc | with_reducible apply Ext.drew | with_reducible apply Ext.drewN)) hbk8
                  have hl8 := hO8.len
                  rw [show ([mlL key a ou co, cn, cm] : List (List Int)).flatten = mlL key a ou co ++ cn ++ cm by simp only [List.flatten_cons, List.flatten_nil, List.append_nil, List.append_assoc]] at hO8 hl8
                  refine hKK.out _ _ ?_ (fun hHeld => ?_)
                  · exact hS _ (by repeat (first | with_reducible assumption | with_reducible exact Ext.refl _ | with_reducible apply Ext.alloc | with_reducible apply Ext.drew | with_reducible apply Ext.drewN))
                  clear hKK KK
                  try simp only [Act.put, List.setIfInBounds_toArray, List.set_cons_zero, List.set_cons_succ]
                  refine wpAnyH_ready (rs := [9]) (by kernel_rfl) (by simp) ?_
                  refine AllReadyH.cons rfl (fun KK hKK => ?_) ?_
                  · go_simp
                    go_at_call 71
                    refine (challenge_any p q g endS K8 _ d8 (mlL key a ou co ++ cn ++ cm) _ HG.out (hO8.rd.ext (by repeat (first | with_reducible assumption | with_reducible exact Ext.refl _ | with_reducible apply Ext.alloc | with_reducible apply Ext.drew | with_reducible apply Ext.drewN))) hl8 (by omega) (by decide)).mono ?_
                    rintro ek wk9 ⟨hek, hbk9⟩
                    rw [HCK2.out, if_pos rfl] at hek
                    rw [show chV p q g endS (mlL key a ou co ++ cn ++ cm) = z from HZ.out] at hek
                    subst hek
                    have hxk9 := Ext.trans (w := W7) (Ext.trans hxk8 (by repeat (first | with_reducible assumption | with_reducible exact Ext.refl _ | with_reducible apply Ext.alloc | with_reducible apply Ext.drew | with_reducible apply Ext.drewN))) hbk9
                    refine hKK.out _ _ ?_ (fun hHeld => ?_)
                    · exact hS _ (by repeat (first | with_reducible assumption | with_reducible exact Ext.refl _ | with_reducible apply Ext.alloc | with_reducible apply Ext.drew | with_reducible apply Ext.drewN))
                    clear hKK KK
                    try simp only [Act.put, List.setIfInBounds_toArray, List.set_cons_zero, List.set_cons_succ]
                    refine' wpAnyH_take (i := 10) (v := _) ?hi10 (by kernel_rfl) (by kernel_rfl) (by kernel_rfl) ?hQ10 ?hy10 (by assumption) ?_
                    case hi10 => (simp only [List.getElem?_toArray, List.getElem?_cons_succ, List.getElem?_cons_zero]; rfl)
                    case hy10 => refine Or.inl ⟨by rfl, ?_⟩; intro w hSw; (try dsimp only at hSw); go_simp <;> with_reducible rfl
                    case hQ10 => exact fun _ _ _ h => h
                    try simp only [Act.put, List.setIfInBounds_toArray, List.set_cons_zero, List.set_cons_succ]
                    refine' wpAnyH_take (i := 11) (v := _) ?hi11 (by kernel_rfl) (by kernel_rfl) (by kernel_rfl) ?hQ11 ?hy11 (by assumption) ?_
                    case hi11 => (simp only [List.getElem?_toArray, List.getElem?_cons_succ, List.getElem?_cons_zero]; rfl)
                    case hy11 => refine Or.inl ⟨by rfl, ?_⟩; intro w hSw; (try dsimp only at hSw); go_simp <;> with_reducible rfl
                    case hQ11 => exact fun _ _ _ h => h
                    try simp only [Act.put, List.setIfInBounds_toArray, List.set_cons_zero, List.set_cons_succ]
                    refine' wpAnyH_take (i := 12) (v := _) ?hi12 (by kernel_rfl) (by kernel_rfl) (by kernel_rfl) ?hQ12 ?hy12 (by assumption) ?_
                    case hi12 => (simp only [List.getElem?_toArray, List.getElem?_cons_succ, List.getElem?_cons_zero]; rfl)
                    case hy12 => refine Or.inl ⟨by rfl, ?_⟩; intro w hSw; (try dsimp only at hSw); go_simp <;> with_reducible rfl
                    case hQ12 => exact fun _ _ _ h => h
                    try simp only [Act.put, List.setIfInBounds_toArray, List.set_cons_zero, List.set_cons_succ]
                    refine' wpAnyH_take (i := 13) (v := _) ?hi13 (by kernel_rfl) (by kernel_rfl) (by kernel_rfl) ?hQ13 ?hy13 (by assumption) ?_
                    case hi13 => (simp only [List.getElem?_toArray, List.getElem?_cons_succ, List.getElem?_cons_zero]; rfl)
                    case hy13 => refine Or.inl ⟨by rfl, ?_⟩; intro w hSw; (try dsimp only at hSw); go_simp <;> with_reducible rfl
                    case hQ13 => exact fun _ _ _ h => h
                    try simp only [Act.put, List.setIfInBounds_toArray, List.set_cons_zero, List.set_cons_succ]
                    refine' wpAnyH_take (i := 14) (v := _) ?hi14 (by kernel_rfl) (by kernel_rfl) (by kernel_rfl) ?hQ14 ?hy14 (by assumption) ?_
                    case hi14 => (simp only [List.getElem?_toArray, List.getElem?_cons_succ, List.getElem?_cons_zero]; rfl)
                    case hy14 => refine Or.inl ⟨by rfl, ?_⟩; intro w hSw; (try dsimp only at hSw); go_simp <;> with_reducible rfl
                    case hQ14 => exact fun _ _ _ h => h
                    try simp only [Act.put, List.setIfInBounds_toArray, List.set_cons_zero, List.set_cons_succ]
                    refine wpAnyH_done (by kernel_rfl) ?_ _
                    go_wp2
                    go_meet
                    exact ⟨rfl, rfl, hxk9⟩
                  exact AllReadyH.nil
                exact AllReadyH.nil
              exact AllReadyH.nil
          case' rest =>
          obtain ⟨rfl, rfl, hbc⟩ := hcut
          generalize wc = W8 at *
          have BP8 := BP.ext hbc
          have h38 := h3.ext hbc
          have L38 := h38.low
          have ho8 := ho.addExt hbc
          clear hbc hS BP h3 B0r hU h2r Er E6r
          have hx8 := (Ext.refl W8).alloc (.cells #[.int .i64 z] 3)
          have h4 : OwnI (W8.alloc (.cells #[.int .i64 z] 3)) W8.heap.size 3 (some ⟨W8.heap.size, 0, none⟩) 1 1 [z] := ownI_lit (w := W8) (e := 3) [z] rfl rfl (Nat.le_refl _) (by unfold maxLen; omega)
          have BP9 := BP8.ext hx8
          have h39 := h38.ext hx8
          have ho9 := ho8.addExt hx8
          have ho1 : Only [gp] (W8.alloc (.cells #[.int .i64 z] 3)) ((W8.alloc (.cells #[.int .i64 z] 3)).setCell ⟨gp, 3, none⟩ (.slice (some ⟨W8.heap.size, 0, none⟩) 1 1)) := (Only.refl _ _).setCell (p := ⟨gp, 3, none⟩) (by simp) _
          have CP := BP9.cells
          have FP := BP9.frozen
          go_upto_region 31 with (fail)
          clear CP FP
          have ho := ho9.thenOnly ho1
          have h3 := h39.keepBlk BP9 (by decide) ho1
          replace h4 := h4.keepBlk BP9 (by decide) ho1
          have BP : Blk ((W8.alloc (.cells #[.int .i64 z] 3)).setCell ⟨gp, 3, none⟩ (.slice (some ⟨W8.heap.size, 0, none⟩) 1 1)) gp 30 #[.slice C1 n e1, .slice C2 n e2, .slice C3 (5 + n) e3, .slice (some ⟨W8.heap.size, 0, none⟩) 1 1, .slice none 0 0] := BP9.set_ 3 _
          have G4 := h4.high
          have L4 := h4.low
          have hz8 := ho8.size
          clear BP8 BP9 h38 h39 ho8 ho9 ho1 hx8
          generalize (W8.alloc (.cells #[.int .i64 z] 3)).setCell ⟨gp, 3, none⟩ (.slice (some ⟨W8.heap.size, 0, none⟩) 1 1) = We at *
          generalize W8.heap.size = g4 at *
          replace E := E.only1 (by omega) ho
          replace E6 := E6.only1 (by rw [HGP.out]; exact Nat.le_refl _) ho
          replace B0 := B0.only ho (by first | (simp; done) | (simp; omega))
          replace B2 := B2.only ho (by first | (simp; done) | (simp; omega))
          replace h1 := h1.keepBlk BPc (by decide) ho
          replace h2 := h2.keepBlk BPc (by decide) ho
          replace hW := hW.keepBlk BPc (by decide) ho
          replace hD := hD.keepP BPc sl5_no ho
          have hc4 : Wc.heap.size ≤ g4 := hz8
          have G3 := h3.high
          have hc6 : v6.heap.size ≤ Wc.heap.size := h6z
          clear BPc hz8 B1 h6z
          have s1 := sumV_bd zS q (by omega) n
          have s2 := dotV_bd zS es q (by omega) n
          have s3 := dotV_bd rs own q (by omega) n
          obtain ⟨S1, hS1⟩ : ∃ v, sumV zS q n = v := ⟨_, rfl⟩
          obtain ⟨S2, hS2⟩ : ∃ v, dotV zS es q n = v := ⟨_, rfl⟩
          obtain ⟨S3, hS3⟩ : ∃ v, dotV rs own q n = v := ⟨_, rfl⟩
          rw [hS1] at s1
          rw [hS2] at s2
          rw [hS3] at s3
          have KS1 := Lib.hid hS1
          have KS2 := Lib.hid hS2
          have KS3 := Lib.hid hS3
          clear hS1 hS2 hS3
          have BES : Hid (∀ x ∈ es, 0 ≤ x ∧ x ≤ q - 1) := fun x hx => by have := BE.out x hx; omega
          have t1 := mul_le4 hqb (a := z) (b := S1) (q := q) (by omega) (by omega)
          have wa1 : IntKind.i64.wrap (z * S1) = z * S1 := IntWalk.i64_in _ (by omega)
          have wb1 : IntKind.i64.wrap (xA + z * S1) = xA + z * S1 := IntWalk.i64_in _ (by omega)
          have wc1 := emod_bd (x := xA + z * S1) (q := q) (by omega)
          have wd1 : IntKind.i64.wrap ((xA + z * S1) % q) = (xA + z * S1) % q := IntWalk.i64_in _ (by omega)
          have we1 : (xA + z * S1).tmod q = (xA + z * S1) % q := Int.tmod_eq_emod_of_nonneg (by omega)
          have t2 := mul_le4 hqb (a := z) (b := S2) (q := q) (by omega) (by omega)
          have wa2 : IntKind.i64.wrap (z * S2) = z * S2 := IntWalk.i64_in _ (by omega)
          have wb2 : IntKind.i64.wrap (xB + z * S2) = xB + z * S2 := IntWalk.i64_in _ (by omega)
          have wc2 := emod_bd (x := xB + z * S2) (q := q) (by omega)
          have wd2 : IntKind.i64.wrap ((xB + z * S2) % q) = (xB + z * S2) % q := IntWalk.i64_in _ (by omega)
          have we2 : (xB + z * S2).tmod q = (xB + z * S2) % q := Int.tmod_eq_emod_of_nonneg (by omega)
          have t3 := mul_le4 hqb (a := z) (b := yv) (q := q) (by omega) (by omega)
          have wa3 : IntKind.i64.wrap (z * yv) = z * yv := IntWalk.i64_in _ (by omega)
          have wb3 : IntKind.i64.wrap (xD + z * yv) = xD + z * yv := IntWalk.i64_in _ (by omega)
          have wc3 := emod_bd (x := xD + z * yv) (q := q) (by omega)
          have wd3 : IntKind.i64.wrap ((xD + z * yv) % q) = (xD + z * yv) % q := IntWalk.i64_in _ (by omega)
          have we3 : (xD + z * yv).tmod q = (xD + z * yv) % q := Int.tmod_eq_emod_of_nonneg (by omega)
          have t4 := mul_le4 hqb (a := z) (b := S3) (q := q) (by omega) (by omega)
          have wa4 : IntKind.i64.wrap (z * S3) = z * S3 := IntWalk.i64_in _ (by omega)
          have wb4 : IntKind.i64.wrap (xF + z * S3) = xF + z * S3 := IntWalk.i64_in _ (by omega)
          have wc4 := emod_bd (x := xF + z * S3) (q := q) (by omega)
          have wd4 : IntKind.i64.wrap ((xF + z * S3) % q) = (xF + z * S3) % q := IntWalk.i64_in _ (by omega)
          have we4 : (xF + z * S3).tmod q = (xF + z * S3) % q := Int.tmod_eq_emod_of_nonneg (by omega)
          have hS : ∀ V, Ext We V → V.cell? ⟨w.heap.size, 0, none⟩ = some (.int .i64 p) ∧ V.cell? ⟨w.heap.size, 1, none⟩ = some (.int .i64 q) ∧ V.cell? ⟨w.heap.size, 2, none⟩ = some (.int .i64 g) := fun V hV => by
            have a0 := (B0.ext hV).cells
            exact ⟨a0 0, a0 1, a0 2⟩
          go_cut [] from 237 to 278 (fun wx => ∃ gl, Blk wx gp 30 #[.slice C1 n e1, .slice C2 n e2, .slice C3 (5 + n) e3, .slice (some ⟨g4, 0, none⟩) 1 1, .slice (some ⟨gl, 0, none⟩) 4 4] ∧ OwnI wx We.heap.size 3 (some ⟨gl, 0, none⟩) 4 4 [(xA + z * S1) % q, (xB + z * S2) % q, (xD + z * yv) % q, (xF + z * S3) % q] ∧ Only [gp] We wx)
          case first =>
            as_aux_lemma =>
              refine wp_region_heldL (S := fun V => V.cell? ⟨w.heap.size, 0, none⟩ = some (.int .i64 p) ∧ V.cell? ⟨w.heap.size, 1, none⟩ = some (.int .i64 q) ∧ V.cell? ⟨w.heap.size, 2, none⟩ = some (.int .i64 g)) 42 (by kernel_rfl) ?_ (fun hHeld => ?_)
              · exact hS _ (by repeat (first | with_reducible assumption | with_reducible exact Ext.refl _ | with_reducible apply Ext.alloc | with_reducible apply Ext.drew | with_reducible apply Ext.drewN))
              refine' wpAnyL_take (i := 0) (v := _) ?hi0 (by kernel_rfl) (by kernel_rfl) (by kernel_rfl) [42] (by kernel_rfl) ?hQ0 ?hy0 (by assumption) ?_
              case hi0 => (simp only [List.getElem?_toArray, List.getElem?_cons_zero]; rfl)
              case hy0 => refine Or.inl ⟨by rfl, ?_⟩; intro w hSw; (try dsimp only at hSw); go_simp <;> with_reducible rfl
              case hQ0 => exact fun _ _ _ h => h
              try simp only [Act.put, List.setIfInBounds_toArray, List.set_cons_zero, List.set_cons_succ]
              refine' wpAnyL_take (i := 1) (v := _) ?hi1 (by kernel_rfl) (by kernel_rfl) (by kernel_rfl) [42] (by kernel_rfl) ?hQ1 ?hy1 (by assumption) ?_
              case hi1 => (simp only [List.getElem?_toArray, List.getElem?_cons_succ, List.getElem?_cons_zero]; rfl)
              case hy1 => refine Or.inl ⟨by rfl, ?_⟩; intro w hSw; (try dsimp only at hSw); go_simp <;> with_reducible rfl
              case hQ1 => exact fun _ _ _ h => h
              try simp only [Act.put, List.setIfInBounds_toArray, List.set_cons_zero, List.set_cons_succ]
              refine' wpAnyL_take (i := 2) (v := _) ?hi2 (by kernel_rfl) (by kernel_rfl) (by kernel_rfl) [42] (by kernel_rfl) ?hQ2 ?hy2 (by assumption) ?_
              case hi2 => (simp only [List.getElem?_toArray, List.getElem?_cons_succ, List.getElem?_cons_zero]; rfl)
              case hy2 => refine Or.inl ⟨by rfl, ?_⟩; intro w hSw; (try dsimp only at hSw); go_simp <;> with_reducible rfl
              case hQ2 => exact fun _ _ _ h => h
              try simp only [Act.put, List.setIfInBounds_toArray, List.set_cons_zero, List.set_cons_succ]
              refine' wpAnyL_take (i := 3) (v := _) ?hi3 (by kernel_rfl) (by kernel_rfl) (by kernel_rfl) [42] (by kernel_rfl) ?hQ3 ?hy3 (by assumption) ?_
              case hi3 => (simp only [List.getElem?_toArray, List.getElem?_cons_succ, List.getElem?_cons_zero]; rfl)
              case hy3 => refine Or.inl ⟨by rfl, ?_⟩; intro w hSw; (try dsimp only at hSw); go_simp <;> with_reducible rfl
              case hQ3 => exact fun _ _ _ h => h
              try simp only [Act.put, List.setIfInBounds_toArray, List.set_cons_zero, List.set_cons_succ]
              refine' wpAnyL_take (i := 4) (v := _) ?hi4 (by kernel_rfl) (by kernel_rfl) (by kernel_rfl) [42] (by kernel_rfl) ?hQ4 ?hy4 (by assumption) ?_
              case hi4 => (simp only [List.getElem?_toArray, List.getElem?_cons_succ, List.getElem?_cons_zero]; rfl)
              case hy4 => refine Or.inl ⟨by rfl, ?_⟩; intro w hSw; (try dsimp only at hSw); go_simp <;> with_reducible rfl
              case hQ4 => exact fun _ _ _ h => h
              try simp only [Act.put, List.setIfInBounds_toArray, List.set_cons_zero, List.set_cons_succ]
              refine' wpAnyL_take (i := 5) (v := _) ?hi5 (by kernel_rfl) (by kernel_rfl) (by kernel_rfl) [42] (by kernel_rfl) ?hQ5 ?hy5 (by assumption) ?_
              case hi5 => (simp only [List.getElem?_toArray, List.getElem?_cons_succ, List.getElem?_cons_zero]; rfl)
              case hy5 => refine Or.inl ⟨by rfl, ?_⟩; intro w hSw; (try dsimp only at hSw); go_simp <;> with_reducible rfl
              case hQ5 => exact fun _ _ _ h => h
              try simp only [Act.put, List.setIfInBounds_toArray, List.set_cons_zero, List.set_cons_succ]
              refine' wpAnyL_take (i := 10) (v := _) ?hi10 (by kernel_rfl) (by kernel_rfl) (by kernel_rfl) [42] (by kernel_rfl) ?hQ10 ?hy10 (by assumption) ?_
              case hi10 => (simp only [List.getElem?_toArray, List.getElem?_cons_succ, List.getElem?_cons_zero]; rfl)
              case hy10 => refine Or.inl ⟨by rfl, ?_⟩; intro w hSw; (try dsimp only at hSw); go_simp <;> with_reducible rfl
              case hQ10 => exact fun _ _ _ h => h
              try simp only [Act.put, List.setIfInBounds_toArray, List.set_cons_zero, List.set_cons_succ]
              refine' wpAnyL_take (i := 11) (v := _) ?hi11 (by kernel_rfl) (by kernel_rfl) (by kernel_rfl) [42] (by kernel_rfl) ?hQ11 ?hy11 (by assumption) ?_
              case hi11 => (simp only [List.getElem?_toArray, List.getElem?_cons_succ, List.getElem?_cons_zero]; rfl)
              case hy11 => refine Or.inl ⟨by rfl, ?_⟩; intro w hSw; (try dsimp only at hSw); go_simp <;> with_reducible rfl
              case hQ11 => exact fun _ _ _ h => h
              try simp only [Act.put, List.setIfInBounds_toArray, List.set_cons_zero, List.set_cons_succ]
              refine' wpAnyL_take (i := 12) (v := _) ?hi12 (by kernel_rfl) (by kernel_rfl) (by kernel_rfl) [42] (by kernel_rfl) ?hQ12 ?hy12 (by assumption) ?_
              case hi12 => (simp only [List.getElem?_toArray, List.getElem?_cons_succ, List.getElem?_cons_zero]; rfl)
              case hy12 => refine Or.inl ⟨by rfl, ?_⟩; intro w hSw; (try dsimp only at hSw); go_simp <;> with_reducible rfl
              case hQ12 => exact fun _ _ _ h => h
              try simp only [Act.put, List.setIfInBounds_toArray, List.set_cons_zero, List.set_cons_succ]
              refine' wpAnyL_take (i := 13) (v := _) ?hi13 (by kernel_rfl) (by kernel_rfl) (by kernel_rfl) [42] (by kernel_rfl) ?hQ13 ?hy13 (by assumption) ?_
              case hi13 => (simp only [List.getElem?_toArray, List.getElem?_cons_succ, List.getElem?_cons_zero]; rfl)
              case hy13 => refine Or.inl ⟨by rfl, ?_⟩; intro w hSw; (try dsimp only at hSw); go_simp <;> with_reducible rfl
              case hQ13 => exact fun _ _ _ h => h
              try simp only [Act.put, List.setIfInBounds_toArray, List.set_cons_zero, List.set_cons_succ]
              refine' wpAnyL_take (i := 14) (v := _) ?hi14 (by kernel_rfl) (by kernel_rfl) (by kernel_rfl) [42] (by kernel_rfl) ?hQ14 ?hy14 (by assumption) ?_
              case hi14 => (simp only [List.getElem?_toArray, List.getElem?_cons_succ, List.getElem?_cons_zero]; rfl)
              case hy14 => refine Or.inl ⟨by rfl, ?_⟩; intro w hSw; (try dsimp only at hSw); go_simp <;> with_reducible rfl
              case hQ14 => exact fun _ _ _ h => h
              try simp only [Act.put, List.setIfInBounds_toArray, List.set_cons_zero, List.set_cons_succ]
              refine' wpAnyL_take (i := 15) (v := _) ?hi15 (by kernel_rfl) (by kernel_rfl) (by kernel_rfl) [42] (by kernel_rfl) ?hQ15 ?hy15 (by assumption) ?_
              case hi15 => (simp only [List.getElem?_toArray, List.getElem?_cons_succ, List.getElem?_cons_zero]; rfl)
              case hy15 => refine Or.inl ⟨by rfl, ?_⟩; intro w hSw; (try dsimp only at hSw); go_simp <;> with_reducible rfl
              case hQ15 => exact fun _ _ _ h => h
              try simp only [Act.put, List.setIfInBounds_toArray, List.set_cons_zero, List.set_cons_succ]
              refine' wpAnyL_take (i := 16) (v := _) ?hi16 (by kernel_rfl) (by kernel_rfl) (by kernel_rfl) [42] (by kernel_rfl) ?hQ16 ?hy16 (by assumption) ?_
              case hi16 => (simp only [List.getElem?_toArray, List.getElem?_cons_succ, List.getElem?_cons_zero]; rfl)
              case hy16 => refine Or.inl ⟨by rfl, ?_⟩; intro w hSw; (try dsimp only at hSw); go_simp <;> with_reducible rfl
              case hQ16 => exact fun _ _ _ h => h
              try simp only [Act.put, List.setIfInBounds_toArray, List.set_cons_zero, List.set_cons_succ]
              refine' wpAnyL_take (i := 21) (v := _) ?hi21 (by kernel_rfl) (by kernel_rfl) (by kernel_rfl) [42] (by kernel_rfl) ?hQ21 ?hy21 (by assumption) ?_
              case hi21 => (simp only [List.getElem?_toArray, List.getElem?_cons_succ, List.getElem?_cons_zero]; rfl)
              case hy21 => refine Or.inl ⟨by rfl, ?_⟩; intro w hSw; (try dsimp only at hSw); go_simp <;> with_reducible rfl
              case hQ21 => exact fun _ _ _ h => h
              try simp only [Act.put, List.setIfInBounds_toArray, List.set_cons_zero, List.set_cons_succ]
              refine' wpAnyL_take (i := 22) (v := _) ?hi22 (by kernel_rfl) (by kernel_rfl) (by kernel_rfl) [42] (by kernel_rfl) ?hQ22 ?hy22 (by assumption) ?_
              case hi22 => (simp only [List.getElem?_toArray, List.getElem?_cons_succ, List.getElem?_cons_zero]; rfl)
              case hy22 => refine Or.inl ⟨by rfl, ?_⟩; intro w hSw; (try dsimp only at hSw); go_simp <;> with_reducible rfl
              case hQ22 => exact fun _ _ _ h => h
              try simp only [Act.put, List.setIfInBounds_toArray, List.set_cons_zero, List.set_cons_succ]
              refine' wpAnyL_take (i := 23) (v := _) ?hi23 (by kernel_rfl) (by kernel_rfl) (by kernel_rfl) [42] (by kernel_rfl) ?hQ23 ?hy23 (by assumption) ?_
              case hi23 => (simp only [List.getElem?_toArray, List.getElem?_cons_succ, List.getElem?_cons_zero]; rfl)
              case hy23 => refine Or.inl ⟨by rfl, ?_⟩; intro w hSw; (try dsimp only at hSw); go_simp <;> with_reducible rfl
              case hQ23 => exact fun _ _ _ h => h
              try simp only [Act.put, List.setIfInBounds_toArray, List.set_cons_zero, List.set_cons_succ]
              refine' wpAnyL_take (i := 24) (v := _) ?hi24 (by kernel_rfl) (by kernel_rfl) (by kernel_rfl) [42] (by kernel_rfl) ?hQ24 ?hy24 (by assumption) ?_
              case hi24 => (simp only [List.getElem?_toArray, List.getElem?_cons_succ, List.getElem?_cons_zero]; rfl)
              case hy24 => refine Or.inl ⟨by rfl, ?_⟩; intro w hSw; (try dsimp only at hSw); go_simp <;> with_reducible rfl
              case hQ24 => exact fun _ _ _ h => h
              try simp only [Act.put, List.setIfInBounds_toArray, List.set_cons_zero, List.set_cons_succ]
              refine' wpAnyL_take (i := 25) (v := _) ?hi25 (by kernel_rfl) (by kernel_rfl) (by kernel_rfl) [42] (by kernel_rfl) ?hQ25 ?hy25 (by assumption) ?_
              case hi25 => (simp only [List.getElem?_toArray, List.getElem?_cons_succ, List.getElem?_cons_zero]; rfl)
              case hy25 => refine Or.inl ⟨by rfl, ?_⟩; intro w hSw; (try dsimp only at hSw); go_simp <;> with_reducible rfl
              case hQ25 => exact fun _ _ _ h => h
              try simp only [Act.put, List.setIfInBounds_toArray, List.set_cons_zero, List.set_cons_succ]
              refine' wpAnyL_take (i := 26) (v := _) ?hi26 (by kernel_rfl) (by kernel_rfl) (by kernel_rfl) [42] (by kernel_rfl) ?hQ26 ?hy26 (by assumption) ?_
              case hi26 => (simp only [List.getElem?_toArray, List.getElem?_cons_succ, List.getElem?_cons_zero]; rfl)
              case hy26 => refine Or.inl ⟨by rfl, ?_⟩; intro w hSw; (try dsimp only at hSw); go_simp <;> with_reducible rfl
              case hQ26 => exact fun _ _ _ h => h
              try simp only [Act.put, List.setIfInBounds_toArray, List.set_cons_zero, List.set_cons_succ]
              refine' wpAnyL_take (i := 28) (v := _) ?hi28 (by kernel_rfl) (by kernel_rfl) (by kernel_rfl) [42] (by kernel_rfl) ?hQ28 ?hy28 (by assumption) ?_
              case hi28 => (simp only [List.getElem?_toArray, List.getElem?_cons_succ, List.getElem?_cons_zero]; rfl)
              case hy28 => refine Or.inl ⟨by rfl, ?_⟩; intro w hSw; (try dsimp only at hSw); go_simp <;> with_reducible rfl
              case hQ28 => exact fun _ _ _ h => h
              try simp only [Act.put, List.setIfInBounds_toArray, List.set_cons_zero, List.set_cons_succ]
              refine' wpAnyL_take (i := 29) (v := _) ?hi29 (by kernel_rfl) (by kernel_rfl) (by kernel_rfl) [42] (by kernel_rfl) ?hQ29 ?hy29 (by assumption) ?_
              case hi29 => (simp only [List.getElem?_toArray, List.getElem?_cons_succ, List.getElem?_cons_zero]; rfl)
              case hy29 => refine Or.inl ⟨by rfl, ?_⟩; intro w hSw; (try dsimp only at hSw); go_simp <;> with_reducible rfl
              case hQ29 => exact fun _ _ _ h => h
              try simp only [Act.put, List.setIfInBounds_toArray, List.set_cons_zero, List.set_cons_succ]
              refine' wpAnyL_take (i := 30) (v := _) ?hi30 (by kernel_rfl) (by kernel_rfl) (by kernel_rfl) [42] (by kernel_rfl) ?hQ30 ?hy30 (by assumption) ?_
              case hi30 => (simp only [List.getElem?_toArray, List.getElem?_cons_succ, List.getElem?_cons_zero]; rfl)
              case hy30 => refine Or.inl ⟨by rfl, ?_⟩; intro w hSw; (try dsimp only at hSw); go_simp <;> with_reducible rfl
              case hQ30 => exact fun _ _ _ h => h
              try simp only [Act.put, List.setIfInBounds_toArray, List.set_cons_zero, List.set_cons_succ]
              refine' wpAnyL_take (i := 31) (v := _) ?hi31 (by kernel_rfl) (by kernel_rfl) (by kernel_rfl) [42] (by kernel_rfl) ?hQ31 ?hy31 (by assumption) ?_
              case hi31 => (simp only [List.getElem?_toArray, List.getElem?_cons_succ, List.getElem?_cons_zero]; rfl)
              case hy31 => refine Or.inl ⟨by rfl, ?_⟩; intro w hSw; (try dsimp only at hSw); go_simp <;> with_reducible rfl
              case hQ31 => exact fun _ _ _ h => h
              try simp only [Act.put, List.setIfInBounds_toArray, List.set_cons_zero, List.set_cons_succ]
              refine' wpAnyL_take (i := 32) (v := _) ?hi32 (by kernel_rfl) (by kernel_rfl) (by kernel_rfl) [42] (by kernel_rfl) ?hQ32 ?hy32 (by assumption) ?_
              case hi32 => (simp only [List.getElem?_toArray, List.getElem?_cons_succ, List.getElem?_cons_zero]; rfl)
              case hy32 => refine Or.inl ⟨by rfl, ?_⟩; intro w hSw; (try dsimp only at hSw); go_simp <;> with_reducible rfl
              case hQ32 => exact fun _ _ _ h => h
              try simp only [Act.put, List.setIfInBounds_toArray, List.set_cons_zero, List.set_cons_succ]
              refine' wpAnyL_take (i := 33) (v := _) ?hi33 (by kernel_rfl) (by kernel_rfl) (by kernel_rfl) [42] (by kernel_rfl) ?hQ33 ?hy33 (by assumption) ?_
              case hi33 => (simp only [List.getElem?_toArray, List.getElem?_cons_succ, List.getElem?_cons_zero]; rfl)
              case hy33 => refine Or.inl ⟨by rfl, ?_⟩; intro w hSw; (try dsimp only at hSw); go_simp <;> with_reducible rfl
              case hQ33 => exact fun _ _ _ h => h
              try simp only [Act.put, List.setIfInBounds_toArray, List.set_cons_zero, List.set_cons_succ]
              refine' wpAnyL_take (i := 34) (v := _) ?hi34 (by kernel_rfl) (by kernel_rfl) (by kernel_rfl) [42] (by kernel_rfl) ?hQ34 ?hy34 (by assumption) ?_
              case hi34 => (simp only [List.getElem?_toArray, List.getElem?_cons_succ, List.getElem?_cons_zero]; rfl)
              case hy34 => refine Or.inl ⟨by rfl, ?_⟩; intro w hSw; (try dsimp only at hSw); go_simp <;> with_reducible rfl
              case hQ34 => exact fun _ _ _ h => h
              try simp only [Act.put, List.setIfInBounds_toArray, List.set_cons_zero, List.set_cons_succ]
              refine wpAnyL_ready (rs := [6]) (by kernel_rfl) (by simp) ?_
              refine AllReadyL.cons rfl (by kernel_rfl) (fun KK hKK => ?_) ?_
              · go_simp
                go_at_call 73
                refine (sum_any (some b0) n f0 zS q _ (rS.ext (E.trans (by repeat (first | with_reducible assumption | with_reducible exact Ext.refl _ | with_reducible apply Ext.alloc | with_reducible apply Ext.drew | with_reducible apply Ext.drewN)))) HLS.out (by omega) hq2 hqb BS.out).mono ?_
                rintro ek wk6 ⟨hek, rfl⟩
                rw [KS1.out] at hek; subst hek
                refine hKK.out _ _ ?_ (fun hHeld => ?_)
                · exact hS _ (by repeat (first | with_reducible assumption | with_reducible exact Ext.refl _ | with_reducible apply Ext.alloc | with_reducible apply Ext.drew | with_reducible apply Ext.drewN))
                clear hKK KK
                try simp only [Act.put, List.setIfInBounds_toArray, List.set_cons_zero, List.set_cons_succ]
                refine' wpAnyL_take (i := 7) (v := _) ?hi7 (by kernel_rfl) (by kernel_rfl) (by kernel_rfl) [42] (by kernel_rfl) ?hQ7 ?hy7 (by assumption) ?_
                case hi7 => (simp only [List.getElem?_toArray, List.getElem?_cons_succ, List.getElem?_cons_zero]; rfl)
                case hy7 => refine Or.inl ⟨by rfl, ?_⟩; intro w hSw; (try dsimp only at hSw); go_simp <;> with_reducible rfl
                case hQ7 => exact fun _ _ _ h => h
                try simp only [Act.put, List.setIfInBounds_toArray, List.set_cons_zero, List.set_cons_succ]
                refine' wpAnyL_take (i := 8) (v := _) ?hi8 (by kernel_rfl) (by kernel_rfl) (by kernel_rfl) [42] (by kernel_rfl) ?hQ8 ?hy8 (by assumption) ?_
                case hi8 => (simp only [List.getElem?_toArray, List.getElem?_cons_succ, List.getElem?_cons_zero]; rfl)
                case hy8 => refine Or.inl ⟨by rfl, ?_⟩; intro w hSw; (try dsimp only at hSw); go_simp <;> with_reducible rfl
                case hQ8 => exact fun _ _ _ h => h
                try simp only [Act.put, List.setIfInBounds_toArray, List.set_cons_zero, List.set_cons_succ]
                refine wpAnyL_ready (rs := [9]) (by kernel_rfl) (by simp) ?_
                refine AllReadyL.cons rfl (by kernel_rfl) (fun KK hKK => ?_) ?_
                · go_simp
                  go_at_call 66
                  refine (exp_any p q g (xA + z * S1) _ hB (by omega) (by omega)).mono ?_
                  rintro ek wk9 ⟨rfl, hbk9⟩
                  have hxk9 := Ext.trans (w := We) (by repeat (first | with_reducible assumption | with_reducible exact Ext.refl _ | with_reducible apply Ext.alloc | with_reducible apply Ext.drew | with_reducible apply Ext.drewN)) hbk9
                  refine hKK.out _ _ ?_ (fun hHeld => ?_)
                  · exact hS _ (by repeat (first | with_reducible assumption | with_reducible exact Ext.refl _ | with_reducible apply Ext.alloc | with_reducible apply Ext.drew | with_reducible apply Ext.drewN))
                  clear hKK KK
                  try simp only [Act.put, List.setIfInBounds_toArray, List.set_cons_zero, List.set_cons_succ]
                  refine wpAnyL_ready (rs := [17]) (by kernel_rfl) (by simp) ?_
                  refine AllReadyL.cons rfl (by kernel_rfl) (fun KK hKK => ?_) ?_
                  · go_simp
                    go_at_call 74
                    refine (dot_any (some b0) D n f0 dc zS es q _ (rS.ext (E.trans (by repeat (first | with_reducible assumption | with_reducible exact Ext.refl _ | with_reducible apply Ext.alloc | with_reducible apply Ext.drew | with_reducible apply Ext.drewN)))) (hD.ext (by repeat (first | with_reducible assumption | with_reducible exact Ext.refl _ | with_reducible apply Ext.alloc | with_reducible apply Ext.drew | with_reducible apply Ext.drewN))) HLS.out HEL.out (by omega) hq2 hqb BS.out BES.out).mono ?_
                    rintro ek wk17 ⟨hek, hbk17⟩
                    rw [KS2.out] at hek; subst hek
                    have hxk17 := Ext.trans (w := We) (by repeat (first | with_reducible assumption | with_reducible exact Ext.refl _ | with_reducible apply Ext.alloc | with_reducible apply Ext.drew | with_reducible apply Ext.drewN)) hbk17
                    refine hKK.out _ _ ?_ (fun hHeld => ?_)
                    · exact hS _ (by repeat (first | with_reducible assumption | with_reducible exact Ext.refl _ | with_reducible apply Ext.alloc | with_reducible apply Ext.drew | with_reducible apply Ext.drewN))
                    clear hKK KK
                    try simp only [Act.put, List.setIfInBounds_toArray, List.set_cons_zero, List.set_cons_succ]
                    refine' wpAnyL_take (i := 18) (v := _) ?hi18 (by kernel_rfl) (by kernel_rfl) (by kernel_rfl) [42] (by kernel_rfl) ?hQ18 ?hy18 (by assumption) ?_
                    case hi18 => (simp only [List.getElem?_toArray, List.getElem?_cons_succ, List.getElem?_cons_zero]; rfl)
                    case hy18 => refine Or.inl ⟨by rfl, ?_⟩; intro w hSw; (try dsimp only at hSw); go_simp <;> with_reducible rfl
                    case hQ18 => exact fun _ _ _ h => h
                    try simp only [Act.put, List.setIfInBounds_toArray, List.set_cons_zero, List.set_cons_succ]
                    refine' wpAnyL_take (i := 19) (v := _) ?hi19 (by kernel_rfl) (by kernel_rfl) (by kernel_rfl) [42] (by kernel_rfl) ?hQ19 ?hy19 (by assumption) ?_
                    case hi19 => (simp only [List.getElem?_toArray, List.getElem?_cons_succ, List.getElem?_cons_zero]; rfl)
                    case hy19 => refine Or.inl ⟨by rfl, ?_⟩; intro w hSw; (try dsimp only at hSw); go_simp <;> with_reducible rfl
                    case hQ19 => exact fun _ _ _ h => h
                    try simp only [Act.put, List.setIfInBounds_toArray, List.set_cons_zero, List.set_cons_succ]
                    refine wpAnyL_ready (rs := [20]) (by kernel_rfl) (by simp) ?_
                    refine AllReadyL.cons rfl (by kernel_rfl) (fun KK hKK => ?_) ?_
                    · go_simp
                      go_at_call 66
                      refine (exp_any p q g (xB + z * S2) _ hB (by omega) (by omega)).mono ?_
                      rintro ek wk20 ⟨rfl, hbk20⟩
                      have hxk20 := Ext.trans (w := We) (by repeat (first | with_reducible assumption | with_reducible exact Ext.refl _ | with_reducible apply Ext.alloc | with_reducible apply Ext.drew | with_reducible apply Ext.drewN)) hbk20
                      refine hKK.out _ _ ?_ (fun hHeld => ?_)
                      · exact hS _ (by repeat (first | with_reducible assumption | with_reducible exact Ext.refl _ | with_reducible apply Ext.alloc | with_reducible apply Ext.drew | with_reducible apply Ext.drewN))
                      clear hKK KK
                      try simp only [Act.put, List.setIfInBounds_toArray, List.set_cons_zero, List.set_cons_succ]
                      refine wpAnyL_ready (rs := [27]) (by kernel_rfl) (by simp) ?_
                      refine AllReadyL.cons rfl (by kernel_rfl) (fun KK hKK => ?_) ?_
                      · go_simp
                        go_at_call 66
                        refine (exp_any p q g (xD + z * yv) _ hB (by omega) (by omega)).mono ?_
                        rintro ek wk27 ⟨rfl, hbk27⟩
                        have hxk27 := Ext.trans (w := We) (by repeat (first | with_reducible assumption | with_reducible exact Ext.refl _ | with_reducible apply Ext.alloc | with_reducible apply Ext.drew | with_reducible apply Ext.drewN)) hbk27
                        refine hKK.out _ _ ?_ (fun hHeld => ?_)
                        · exact hS _ (by repeat (first | with_reducible assumption | with_reducible exact Ext.refl _ | with_reducible apply Ext.alloc | with_reducible apply Ext.drew | with_reducible apply Ext.drewN))
                        clear hKK KK
                        try simp only [Act.put, List.setIfInBounds_toArray, List.set_cons_zero, List.set_cons_succ]
                        refine wpAnyL_ready (rs := [35]) (by kernel_rfl) (by simp) ?_
                        refine AllReadyL.cons rfl (by kernel_rfl) (fun KK hKK => ?_) ?_
                        · go_simp
                          go_at_call 74
                          refine (dot_any R G n e gc rs own q _ (hr.ext (E.trans (by repeat (first | with_reducible assumption | with_reducible exact Ext.refl _ | with_reducible apply Ext.alloc | with_reducible apply Ext.drew | with_reducible apply Ext.drewN)))) (hW.rd.ext (by repeat (first | with_reducible assumption | with_reducible exact Ext.refl _ | with_reducible apply Ext.alloc | with_reducible apply Ext.drew | with_reducible apply Ext.drewN))) HRL.out HWL.out (by omega) hq2 hqb BR.out BOW.out).mono ?_
                          rintro ek wk35 ⟨hek, hbk35⟩
                          rw [KS3.out] at hek; subst hek
                          have hxk35 := Ext.trans (w := We) (by repeat (first | with_reducible assumption | with_reducible exact Ext.refl _ | with_reducible apply Ext.alloc | with_reducible apply Ext.drew | with_reducible apply Ext.drewN)) hbk35
                          refine hKK.out _ _ ?_ (fun hHeld => ?_)
                          · exact hS _ (by repeat (first | with_reducible assumption | with_reducible exact Ext.refl _ | with_reducible apply Ext.alloc | with_reducible apply Ext.drew | with_reducible apply Ext.drewN))
                          clear hKK KK
                          try simp only [Act.put, List.setIfInBounds_toArray, List.set_cons_zero, List.set_cons_succ]
                          refine' wpAnyL_take (i := 36) (v := _) ?hi36 (by kernel_rfl) (by kernel_rfl) (by kernel_rfl) [42] (by kernel_rfl) ?hQ36 ?hy36 (by assumption) ?_
                          case hi36 => (simp only [List.getElem?_toArray, List.getElem?_cons_succ, List.getElem?_cons_zero]; rfl)
                          case hy36 => refine Or.inl ⟨by rfl, ?_⟩; intro w hSw; (try dsimp only at hSw); go_simp <;> with_reducible rfl
                          case hQ36 => exact fun _ _ _ h => h
                          try simp only [Act.put, List.setIfInBounds_toArray, List.set_cons_zero, List.set_cons_succ]
                          refine' wpAnyL_take (i := 37) (v := _) ?hi37 (by kernel_rfl) (by kernel_rfl) (by kernel_rfl) [42] (by kernel_rfl) ?hQ37 ?hy37 (by assumption) ?_
                          case hi37 => (simp only [List.getElem?_toArray, List.getElem?_cons_succ, List.getElem?_cons_zero]; rfl)
                          case hy37 => refine Or.inl ⟨by rfl, ?_⟩; intro w hSw; (try dsimp only at hSw); go_simp <;> with_reducible rfl
                          case hQ37 => exact fun _ _ _ h => h
                          try simp only [Act.put, List.setIfInBounds_toArray, List.set_cons_zero, List.set_cons_succ]
                          refine wpAnyL_ready (rs := [38]) (by kernel_rfl) (by simp) ?_
                          refine AllReadyL.cons rfl (by kernel_rfl) (fun KK hKK => ?_) ?_
                          · go_simp
                            go_at_call 66
                            refine (exp_any p q g (xF + z * S3) _ hB (by omega) (by omega)).mono ?_
                            rintro ek wk38 ⟨rfl, hbk38⟩
                            have hxk38 := Ext.trans (w := We) (by repeat (first | with_reducible assumption | with_reducible exact Ext.refl _ | with_reducible apply Ext.alloc | with_reducible apply Ext.drew | with_reducible apply Ext.drewN)) hbk38
                            refine hKK.out _ _ ?_ (fun hHeld => ?_)
                            · exact hS _ (by repeat (first | with_reducible assumption | with_reducible exact Ext.refl _ | with_reducible apply Ext.alloc | with_reducible apply Ext.drew | with_reducible apply Ext.drewN))
                            clear hKK KK
                            try simp only [Act.put, List.setIfInBounds_toArray, List.set_cons_zero, List.set_cons_succ]
                            refine wpAnyL_ready (rs := [39]) (by kernel_rfl) (by simp) ?_
                            refine AllReadyL.cons rfl (by kernel_rfl) (fun KK hKK => ?_) ?_
                            · go_simp
                              refine hKK.out _ _ ?_ (fun hHeld => ?_)
                              · exact hS _ (by repeat (first | with_reducible assumption | with_reducible exact Ext.refl _ | with_reducible apply Ext.alloc | with_reducible apply Ext.drew | with_reducible apply Ext.drewN))
                              clear hKK KK
                              try simp only [Act.put, List.setIfInBounds_toArray, List.set_cons_zero, List.set_cons_succ]
                              refine' wpAnyL_take (i := 40) (v := _) ?hi40 (by kernel_rfl) (by kernel_rfl) (by kernel_rfl) [41, 42] (by kernel_rfl) ?hQ40 ?hy40 (by assumption) ?_
                              case hi40 => (simp only [List.getElem?_toArray, List.getElem?_cons_succ, List.getElem?_cons_zero]; rfl)
                              case hy40 => refine Or.inl ⟨by rfl, ?_⟩; intro w hSw; (try dsimp only at hSw); go_simp <;> with_reducible rfl
                              case hQ40 => exact fun _ _ _ h => h
                              try simp only [Act.put, List.setIfInBounds_toArray, List.set_cons_zero, List.set_cons_succ]
                              refine' wpAnyL_take (i := 41) (v := _) ?hi41 (by kernel_rfl) (by kernel_rfl) (by kernel_rfl) [42] (by kernel_rfl) ?hQ41 ?hy41 (by assumption) ?_
                              case hi41 => (simp only [List.getElem?_toArray, List.getElem?_cons_succ, List.getElem?_cons_zero]; rfl)
                              case hy41 => refine Or.inl ⟨by rfl, ?_⟩; intro w hSw; (try dsimp only at hSw); go_simp <;> with_reducible rfl
                              case hQ41 => exact fun _ _ _ h => h
                              try simp only [Act.put, List.setIfInBounds_toArray, List.set_cons_zero, List.set_cons_succ]
                              refine wpAnyL_ready (rs := [42]) (by kernel_rfl) (by simp) ?_
                              refine AllReadyL.last rfl (by kernel_rfl) (fun KK hKK => ?_) ?_
                              · have BP7 := BP.ext (Ext.alloc hxk38 (.cells #[.int .i64 ((xA + z * S1) % q), .int .i64 ((xB + z * S2) % q), .int .i64 ((xD + z * yv) % q), .int .i64 ((xF + z * S3) % q)] 3))
                                have FN := BP7.frozen
                                have CN := BP7.cells
                                have hO5 : OwnI (wk38.alloc (.cells #[.int .i64 ((xA + z * S1) % q), .int .i64 ((xB + z * S2) % q), .int .i64 ((xD + z * yv) % q), .int .i64 ((xF + z * S3) % q)] 3)) We.heap.size 3 (some ⟨wk38.heap.size, 0, none⟩) 4 4 [(xA + z * S1) % q, (xB + z * S2) % q, (xD + z * yv) % q, (xF + z * S3) % q] := ownI_lit (w := wk38) (e := 3) [(xA + z * S1) % q, (xB + z * S2) % q, (xD + z * yv) % q, (xF + z * S3) % q] rfl rfl (Ext.size (w := We) hxk38) (by unfold maxLen; omega)
                                go_simp
                                refine hKK.out _ _ ?_
                                clear hKK KK
                                try simp only [Act.put, List.setIfInBounds_toArray, List.set_cons_zero, List.set_cons_succ]
                                refine wpAny_done (by kernel_rfl) ?_ _
                                go_wp2
                                go_meet
                                exact ⟨_, BP7.set_ 4 _, hO5.keepBlk BP7 (by decide) ((Only.refl _ _).setCell (by simp) _), ((Ext.alloc hxk38 _).toOnly [gp]).setCell (by simp) _⟩
                              exact AllReadyL.nil
                            exact AllReadyL.nil
                          exact AllReadyL.nil
                        exact AllReadyL.nil
                      exact AllReadyL.nil
                    exact AllReadyL.nil
                  exact AllReadyL.nil
                exact AllReadyL.nil
              exact AllReadyL.nil
          case' rest =>
          obtain ⟨gl, BPn, h5, ho5⟩ := hcut
          generalize wc = W9 at *
          have hR0 : pmR q z xA xB xD xF yv zS es rs own zW zT zX n 0 0 = [(xA + z * S1) % q, (xB + z * S2) % q, (xD + z * yv) % q, (xF + z * S3) % q] := by
            unfold pmR pmB
            rw [KS1.out, KS2.out, KS3.out]
            rfl
          rw [← hR0] at h5
          clear hR0 hS ho s1 s2 s3 t1 t2 t3 t4 wa1 wa2 wa3 wa4 wb1 wb2 wb3 wb4 wc1 wc2 wc3 wc4 wd1 wd2 wd3 wd4 we1 we2 we3 we4
          have BPe := BP
          clear BP
          have hWlo := hW.low
          go_wp2
          go_loopw [280] (fun i wr => ∃ (j : Nat) (C5 : Option Addr) (e5 : Nat), j ≤ n ∧ i = .int .i64 j ∧ Blk wr gp 30 #[.slice C1 n e1, .slice C2 n e2, .slice C3 (5 + n) e3, .slice (some ⟨g4, 0, none⟩) 1 1, .slice C5 (4 + j) e5] ∧ OwnI wr We.heap.size 3 C5 (4 + j) e5 (pmR q z xA xB xD xF yv zS es rs own zW zT zX n j 0) ∧ Only [gp] We wr) (fun i _ => n - (intOf i).toNat)
          case atStart => exact ⟨0, _, _, Nat.zero_le _, rfl, BPn, h5, ho5⟩
          case round =>
            clear BPn h5 ho5
            obtain ⟨j, C5, e5, hj, rfl, BP, h5, ho5⟩ := hrel
            have hoz := ho5.size
            have h6z := E6.size
            have E6r := E6.only1 (by rw [HGP.out]; exact Nat.le_refl _) ho5
            by_cases hlt : j < n
            · have hj1 : j < zW.length := by rw [HLW.out]; exact hlt
              have hj2 : j < zT.length := by rw [HLT.out]; exact hlt
              obtain ⟨yd, hYA, hx1c⟩ := (rW.ext E0).at_ hj1
              injection hYA with hYA
              subst hYA
              obtain ⟨ud, hUA, hx2c⟩ := (rT.ext E0).at_ hj2
              injection hUA with hUA
              subst hUA
              have r1 := BW.out _ (List.getElem_mem hj1)
              have r2 := BT.out _ (List.getElem_mem hj2)
              have HST : Hid (pmR q z xA xB xD xF yv zS es rs own zW zT zX n (j + 1) 0 = pmR q z xA xB xD xF yv zS es rs own zW zT zX n j 0 ++ [(zW[j] + z * zT[j]) % q]) := by show _ = _; rw [pmR_k]; unfold pmU; rw [getD_lt hj1, getD_lt hj2]
              generalize zW[j] = wj at *
              generalize zT[j] = tj at *
              have r5 := mul_le4 hqb (a := z) (b := tj) (q := q) (by omega) (by omega)
              have wr1 : IntKind.i64.wrap (z * tj) = z * tj := IntWalk.i64_in _ (by omega)
              have wr2 : IntKind.i64.wrap (wj + z * tj) = wj + z * tj := IntWalk.i64_in _ (by omega)
              clear hj1 hj2
              have hjn : (j : Int) < (n : Int) := by omega
              have hj0 : (0 : Int) ≤ (j : Int) := by omega
              have hS : ∀ V, Ext v6 V → Blk V gp 30 #[.slice C1 n e1, .slice C2 n e2, .slice C3 (5 + n) e3, .slice (some ⟨g4, 0, none⟩) 1 1, .slice C5 (4 + j) e5] → V.cell? ⟨w.heap.size, 0, none⟩ = some (.int .i64 p) ∧ V.cell? ⟨w.heap.size, 1, none⟩ = some (.int .i64 q) ∧ V.cell? ⟨w.heap.size, 2, none⟩ = some (.int .i64 g) ∧ V.cell? ⟨gp, 4, none⟩ = some (.slice C5 (4 + j) e5) ∧ V.cell? (b6.add j) = some (.int .i64 wj) ∧ V.cell? (b1.add j) = some (.int .i64 tj) := fun V hV hP => by
                have a0 := (B06.ext hV).cells
                have a3 := hP.cells
                exact ⟨a0 0, a0 1, a0 2, a3 4, hV.cell hx1c, hV.cell hx2c⟩
              go_upto_region 35 with (fail)
              as_aux_lemma =>
                refine wp_region_heldL (S := fun V => V.cell? ⟨w.heap.size, 0, none⟩ = some (.int .i64 p) ∧ V.cell? ⟨w.heap.size, 1, none⟩ = some (.int .i64 q) ∧ V.cell? ⟨w.heap.size, 2, none⟩ = some (.int .i64 g) ∧ V.cell? ⟨gp, 4, none⟩ = some (.slice C5 (4 + j) e5) ∧ V.cell? (b6.add j) = some (.int .i64 wj) ∧ V.cell? (b1.add j) = some (.int .i64 tj)) 20 (by kernel_rfl) ?_ (fun hHeld => ?_)
                · exact hS _ (by repeat (first | with_reducible assumption | with_reducible exact Ext.refl _ | with_reducible apply Ext.alloc | with_reducible apply Ext.drew | with_reducible apply Ext.drewN)) (by first | assumption | exact Blk.ext BP (by repeat (first | with_reducible assumption | with_reducible exact Ext.refl _ | with_reducible apply Ext.alloc | with_reducible apply Ext.drew | with_reducible apply Ext.drewN)))
                refine' wpAnyL_take (i := 0) (v := _) ?hi0 (by kernel_rfl) (by kernel_rfl) (by kernel_rfl) [20] (by kernel_rfl) ?hQ0 ?hy0 (by assumption) ?_
                case hi0 => (simp only [List.getElem?_toArray, List.getElem?_cons_zero]; rfl)
                case hy0 => refine Or.inl ⟨by rfl, ?_⟩; intro w hSw; (try dsimp only at hSw); go_simp <;> with_reducible rfl
                case hQ0 => exact fun _ _ _ h => h
                try simp only [Act.put, List.setIfInBounds_toArray, List.set_cons_zero, List.set_cons_succ]
                refine' wpAnyL_take (i := 1) (v := _) ?hi1 (by kernel_rfl) (by kernel_rfl) (by kernel_rfl) [20] (by kernel_rfl) ?hQ1 ?hy1 (by assumption) ?_
                case hi1 => (simp only [List.getElem?_toArray, List.getElem?_cons_succ, List.getElem?_cons_zero]; rfl)
                case hy1 => refine Or.inl ⟨by rfl, ?_⟩; intro w hSw; (try dsimp only at hSw); go_simp <;> with_reducible rfl
                case hQ1 => exact fun _ _ _ h => h
                try simp only [Act.put, List.setIfInBounds_toArray, List.set_cons_zero, List.set_cons_succ]
                refine' wpAnyL_take (i := 2) (v := _) ?hi2 (by kernel_rfl) (by kernel_rfl) (by kernel_rfl) [20] (by kernel_rfl) ?hQ2 ?hy2 (by assumption) ?_
                case hi2 => (simp only [List.getElem?_toArray, List.getElem?_cons_succ, List.getElem?_cons_zero]; rfl)
                case hy2 => refine Or.inl ⟨by rfl, ?_⟩; intro w hSw; (try dsimp only at hSw); go_simp <;> with_reducible rfl
                case hQ2 => exact fun _ _ _ h => h
                try simp only [Act.put, List.setIfInBounds_toArray, List.set_cons_zero, List.set_cons_succ]
                refine' wpAnyL_take (i := 3) (v := _) ?hi3 (by kernel_rfl) (by kernel_rfl) (by kernel_rfl) [20] (by kernel_rfl) ?hQ3 ?hy3 (by assumption) ?_
                case hi3 => (simp only [List.getElem?_toArray, List.getElem?_cons_succ, List.getElem?_cons_zero]; rfl)
                case hy3 => refine Or.inl ⟨by rfl, ?_⟩; intro w hSw; (try dsimp only at hSw); go_simp <;> with_reducible rfl
                case hQ3 => exact fun _ _ _ h => h
                try simp only [Act.put, List.setIfInBounds_toArray, List.set_cons_zero, List.set_cons_succ]
                refine' wpAnyL_take (i := 4) (v := _) ?hi4 (by kernel_rfl) (by kernel_rfl) (by kernel_rfl) [20] (by kernel_rfl) ?hQ4 ?hy4 (by assumption) ?_
                case hi4 => (simp only [List.getElem?_toArray, List.getElem?_cons_succ, List.getElem?_cons_zero]; rfl)
                case hy4 => refine Or.inl ⟨by rfl, ?_⟩; intro w hSw; (try dsimp only at hSw); go_simp <;> with_reducible rfl
                case hQ4 => exact fun _ _ _ h => h
                try simp only [Act.put, List.setIfInBounds_toArray, List.set_cons_zero, List.set_cons_succ]
                refine' wpAnyL_take (i := 5) (v := _) ?hi5 (by kernel_rfl) (by kernel_rfl) (by kernel_rfl) [20] (by kernel_rfl) ?hQ5 ?hy5 (by assumption) ?_
                case hi5 => (simp only [List.getElem?_toArray, List.getElem?_cons_succ, List.getElem?_cons_zero]; rfl)
                case hy5 => refine Or.inl ⟨by rfl, ?_⟩; intro w hSw; (try dsimp only at hSw); go_simp <;> with_reducible rfl
                case hQ5 => exact fun _ _ _ h => h
                try simp only [Act.put, List.setIfInBounds_toArray, List.set_cons_zero, List.set_cons_succ]
                refine' wpAnyL_take (i := 6) (v := _) ?hi6 (by kernel_rfl) (by kernel_rfl) (by kernel_rfl) [20] (by kernel_rfl) ?hQ6 ?hy6 (by assumption) ?_
                case hi6 => (simp only [List.getElem?_toArray, List.getElem?_cons_succ, List.getElem?_cons_zero]; rfl)
                case hy6 => refine Or.inl ⟨by rfl, ?_⟩; intro w hSw; (try dsimp only at hSw); go_simp <;> with_reducible rfl
                case hQ6 => exact fun _ _ _ h => h
                try simp only [Act.put, List.setIfInBounds_toArray, List.set_cons_zero, List.set_cons_succ]
                refine' wpAnyL_take (i := 7) (v := _) ?hi7 (by kernel_rfl) (by kernel_rfl) (by kernel_rfl) [20] (by kernel_rfl) ?hQ7 ?hy7 (by assumption) ?_
                case hi7 => (simp only [List.getElem?_toArray, List.getElem?_cons_succ, List.getElem?_cons_zero]; rfl)
                case hy7 => refine Or.inl ⟨by rfl, ?_⟩; intro w hSw; (try dsimp only at hSw); go_simp <;> with_reducible rfl
                case hQ7 => exact fun _ _ _ h => h
                try simp only [Act.put, List.setIfInBounds_toArray, List.set_cons_zero, List.set_cons_succ]
                refine' wpAnyL_take (i := 8) (v := _) ?hi8 (by kernel_rfl) (by kernel_rfl) (by kernel_rfl) [20] (by kernel_rfl) ?hQ8 ?hy8 (by assumption) ?_
                case hi8 => (simp only [List.getElem?_toArray, List.getElem?_cons_succ, List.getElem?_cons_zero]; rfl)
                case hy8 => refine Or.inl ⟨by rfl, ?_⟩; intro w hSw; (try dsimp only at hSw); go_simp <;> with_reducible rfl
                case hQ8 => exact fun _ _ _ h => h
                try simp only [Act.put, List.setIfInBounds_toArray, List.set_cons_zero, List.set_cons_succ]
                refine' wpAnyL_take (i := 9) (v := _) ?hi9 (by kernel_rfl) (by kernel_rfl) (by kernel_rfl) [20] (by kernel_rfl) ?hQ9 ?hy9 (by assumption) ?_
                case hi9 => (simp only [List.getElem?_toArray, List.getElem?_cons_succ, List.getElem?_cons_zero]; rfl)
                case hy9 => refine Or.inl ⟨by rfl, ?_⟩; intro w hSw; (try dsimp only at hSw); go_simp <;> with_reducible rfl
                case hQ9 => exact fun _ _ _ h => h
                try simp only [Act.put, List.setIfInBounds_toArray, List.set_cons_zero, List.set_cons_succ]
                refine' wpAnyL_take (i := 10) (v := _) ?hi10 (by kernel_rfl) (by kernel_rfl) (by kernel_rfl) [20] (by kernel_rfl) ?hQ10 ?hy10 (by assumption) ?_
                case hi10 => (simp only [List.getElem?_toArray, List.getElem?_cons_succ, List.getElem?_cons_zero]; rfl)
                case hy10 => refine Or.inl ⟨by rfl, ?_⟩; intro w hSw; (try dsimp only at hSw); go_simp <;> with_reducible rfl
                case hQ10 => exact fun _ _ _ h => h
                try simp only [Act.put, List.setIfInBounds_toArray, List.set_cons_zero, List.set_cons_succ]
                refine' wpAnyL_take (i := 11) (v := _) ?hi11 (by kernel_rfl) (by kernel_rfl) (by kernel_rfl) [20] (by kernel_rfl) ?hQ11 ?hy11 (by assumption) ?_
                case hi11 => (simp only [List.getElem?_toArray, List.getElem?_cons_succ, List.getElem?_cons_zero]; rfl)
                case hy11 => refine Or.inl ⟨by rfl, ?_⟩; intro w hSw; (try dsimp only at hSw); go_simp <;> with_reducible rfl
                case hQ11 => exact fun _ _ _ h => h
                try simp only [Act.put, List.setIfInBounds_toArray, List.set_cons_zero, List.set_cons_succ]
                refine' wpAnyL_take (i := 12) (v := _) ?hi12 (by kernel_rfl) (by kernel_rfl) (by kernel_rfl) [20] (by kernel_rfl) ?hQ12 ?hy12 (by assumption) ?_
                case hi12 => (simp only [List.getElem?_toArray, List.getElem?_cons_succ, List.getElem?_cons_zero]; rfl)
                case hy12 => refine Or.inl ⟨by rfl, ?_⟩; intro w hSw; (try dsimp only at hSw); go_simp <;> with_reducible rfl
                case hQ12 => exact fun _ _ _ h => h
                try simp only [Act.put, List.setIfInBounds_toArray, List.set_cons_zero, List.set_cons_succ]
                refine' wpAnyL_take (i := 13) (v := _) ?hi13 (by kernel_rfl) (by kernel_rfl) (by kernel_rfl) [20] (by kernel_rfl) ?hQ13 ?hy13 (by assumption) ?_
                case hi13 => (simp only [List.getElem?_toArray, List.getElem?_cons_succ, List.getElem?_cons_zero]; rfl)
                case hy13 => refine Or.inl ⟨by rfl, ?_⟩; intro w hSw; (try dsimp only at hSw); go_simp <;> with_reducible rfl
                case hQ13 => exact fun _ _ _ h => h
                try simp only [Act.put, List.setIfInBounds_toArray, List.set_cons_zero, List.set_cons_succ]
                refine' wpAnyL_take (i := 14) (v := _) ?hi14 (by kernel_rfl) (by kernel_rfl) (by kernel_rfl) [20] (by kernel_rfl) ?hQ14 ?hy14 (by assumption) ?_
                case hi14 => (simp only [List.getElem?_toArray, List.getElem?_cons_succ, List.getElem?_cons_zero]; rfl)
                case hy14 => refine Or.inl ⟨by rfl, ?_⟩; intro w hSw; (try dsimp only at hSw); go_simp <;> with_reducible rfl
                case hQ14 => exact fun _ _ _ h => h
                try simp only [Act.put, List.setIfInBounds_toArray, List.set_cons_zero, List.set_cons_succ]
                refine wpAnyL_ready (rs := [15]) (by kernel_rfl) (by simp) ?_
                refine AllReadyL.cons rfl (by kernel_rfl) (fun KK hKK => ?_) ?_
                · go_simp
                  go_at_call 66
                  refine (exp_any p q g (wj + z * tj) _ hB (by omega) (by omega)).mono ?_
                  rintro ek wk15 ⟨rfl, hbk15⟩
                  have hxk15 := Ext.trans (w := v6) (by repeat (first | with_reducible assumption | with_reducible exact Ext.refl _ | with_reducible apply Ext.alloc | with_reducible apply Ext.drew | with_reducible apply Ext.drewN)) hbk15
                  have hyk15 := Ext.trans (w := wr) (by repeat (first | with_reducible assumption | with_reducible exact Ext.refl _ | with_reducible apply Ext.alloc | with_reducible apply Ext.drew | with_reducible apply Ext.drewN)) hbk15
                  refine hKK.out _ _ ?_ (fun hHeld => ?_)
                  · exact hS _ (by repeat (first | with_reducible assumption | with_reducible exact Ext.refl _ | with_reducible apply Ext.alloc | with_reducible apply Ext.drew | with_reducible apply Ext.drewN)) (by first | assumption | exact Blk.ext BP (by repeat (first | with_reducible assumption | with_reducible exact Ext.refl _ | with_reducible apply Ext.alloc | with_reducible apply Ext.drew | with_reducible apply Ext.drewN)))
                  clear hKK KK
                  try simp only [Act.put, List.setIfInBounds_toArray, List.set_cons_zero, List.set_cons_succ]
                  refine wpAnyL_ready (rs := [16]) (by kernel_rfl) (by simp) ?_
                  refine AllReadyL.cons rfl (by kernel_rfl) (fun KK hKK => ?_) ?_
                  · go_simp
                    refine hKK.out _ _ ?_ (fun hHeld => ?_)
                    · exact hS _ (by repeat (first | with_reducible assumption | with_reducible exact Ext.refl _ | with_reducible apply Ext.alloc | with_reducible apply Ext.drew | with_reducible apply Ext.drewN)) (by first | assumption | exact Blk.ext BP (by repeat (first | with_reducible assumption | with_reducible exact Ext.refl _ | with_reducible apply Ext.alloc | with_reducible apply Ext.drew | with_reducible apply Ext.drewN)))
                    clear hKK KK
                    try simp only [Act.put, List.setIfInBounds_toArray, List.set_cons_zero, List.set_cons_succ]
                    refine wpAnyL_ready (rs := [17]) (by kernel_rfl) (by simp) ?_
                    refine AllReadyL.cons rfl (by kernel_rfl) (fun KK hKK => ?_) ?_
                    · refine step_app1L intSl (by rfl) _ _ (by rfl) (h5.ext (by repeat (first | with_reducible assumption | with_reducible exact Ext.refl _ | with_reducible apply Ext.alloc | with_reducible apply Ext.drew | with_reducible apply Ext.drewN))) (by rfl) _ (by rfl) (cell_new (w := wk15) (by first | rfl | (simp; done)) (by repeat (first | with_reducible assumption | with_reducible exact Ext.refl _ | with_reducible apply Ext.alloc | with_reducible apply Ext.drew | with_reducible apply Ext.drewN))) (by omega) (Nat.le_trans hoz (Ext.size (w := wr) (by repeat (first | with_reducible assumption | with_reducible exact Ext.refl _ | with_reducible apply Ext.alloc | with_reducible apply Ext.drew | with_reducible apply Ext.drewN)))) ?_
                      intro V3 d2 w3 hV3 hon2 hli2
                      have hx3 := Ext.only (w := v6) (by repeat (first | with_reducible assumption | with_reducible exact Ext.refl _ | with_reducible apply Ext.alloc | with_reducible apply Ext.drew | with_reducible apply Ext.drewN)) hon2 (h5.high.mono h6z)
                      have BP7 := Blk.only (Blk.ext BP (by repeat (first | with_reducible assumption | with_reducible exact Ext.refl _ | with_reducible apply Ext.alloc | with_reducible apply Ext.drew | with_reducible apply Ext.drewN))) hon2 (Blk.off_own BP h5.w (by decide))
                      have ho7 := (Only.addHigh (Only.addExt ho5 (by repeat (first | with_reducible assumption | with_reducible exact Ext.refl _ | with_reducible apply Ext.alloc | with_reducible apply Ext.drew | with_reducible apply Ext.drewN))) hon2 h5.high)
                      refine hKK.out _ _ ?_ (fun hHeld => ?_)
                      · exact hS _ (by repeat (first | with_reducible assumption | with_reducible exact Ext.refl _ | with_reducible apply Ext.alloc | with_reducible apply Ext.drew | with_reducible apply Ext.drewN)) (by first | assumption | exact Blk.ext BP (by repeat (first | with_reducible assumption | with_reducible exact Ext.refl _ | with_reducible apply Ext.alloc | with_reducible apply Ext.drew | with_reducible apply Ext.drewN)))
                      clear hKK KK
                      try simp only [List.getElem_toArray, List.getElem_cons_succ, List.getElem_cons_zero]
                      try simp only [Act.put, List.setIfInBounds_toArray, List.set_cons_zero, List.set_cons_succ]
                      refine' wpAnyL_take (i := 18) (v := _) ?hi18 (by kernel_rfl) (by kernel_rfl) (by kernel_rfl) [19, 20] (by kernel_rfl) ?hQ18 ?hy18 (by assumption) ?_
                      case hi18 => (simp only [List.getElem?_toArray, List.getElem?_cons_succ, List.getElem?_cons_zero]; rfl)
                      case hy18 => refine Or.inl ⟨by rfl, ?_⟩; intro w hSw; (try dsimp only at hSw); go_simp <;> with_reducible rfl
                      case hQ18 => exact fun _ _ _ h => h
                      try simp only [Act.put, List.setIfInBounds_toArray, List.set_cons_zero, List.set_cons_succ]
                      refine' wpAnyL_take (i := 19) (v := _) ?hi19 (by kernel_rfl) (by kernel_rfl) (by kernel_rfl) [20] (by kernel_rfl) ?hQ19 ?hy19 (by assumption) ?_
                      case hi19 => (simp only [List.getElem?_toArray, List.getElem?_cons_succ, List.getElem?_cons_zero]; rfl)
                      case hy19 => refine Or.inl ⟨by rfl, ?_⟩; intro w hSw; (try dsimp only at hSw); go_simp <;> with_reducible rfl
                      case hQ19 => exact fun _ _ _ h => h
                      try simp only [Act.put, List.setIfInBounds_toArray, List.set_cons_zero, List.set_cons_succ]
                      refine wpAnyL_ready (rs := [20]) (by kernel_rfl) (by simp) ?_
                      refine AllReadyL.last rfl (by kernel_rfl) (fun KK hKK => ?_) ?_
                      · have FN := BP7.frozen
                        have CN := BP7.cells
                        go_simp
                        refine hKK.out _ _ ?_
                        clear hKK KK
                        try simp only [Act.put, List.setIfInBounds_toArray, List.set_cons_zero, List.set_cons_succ]
                        refine wpAny_done (by kernel_rfl) ?_ _
                        have hV4 := hV3.keepBlk BP7 (by decide) ((Only.refl _ _).setCell (p := ⟨gp, 4, none⟩) (by simp) (.slice V3 (4 + j + 1) d2))
                        rw [← HST.out] at hV4
                        go_wp2
                        go_roundw
                        case rel => exact ⟨j + 1, V3, d2, by omega, by go_num, BP7.set_ 4 _, hV4, ho7.setCell (by simp) _⟩
                        case measure => first | (simp [intOf]; done) | (simp [intOf]; omega)
                      exact AllReadyL.nil
                    exact AllReadyL.nil
                  exact AllReadyL.nil
                exact AllReadyL.nil
            · obtain rfl : n = j := by omega
              clear hlt
              have BPn := BP
              clear BP
              go_wp2
              go_loopw [305] (fun i wr => ∃ (j : Nat) (C5 : Option Addr) (e5 : Nat), j ≤ n ∧ i = .int .i64 j ∧ Blk wr gp 30 #[.slice C1 n e1, .slice C2 n e2, .slice C3 (5 + n) e3, .slice (some ⟨g4, 0, none⟩) 1 1, .slice C5 (4 + n + j) e5] ∧ OwnI wr We.heap.size 3 C5 (4 + n + j) e5 (pmR q z xA xB xD xF yv zS es rs own zW zT zX n n j) ∧ Only [gp] We wr) (fun i _ => n - (intOf i).toNat)
              case atStart => exact ⟨0, _, _, Nat.zero_le _, rfl, BPn, h5, ho5⟩
              case round =>
                clear BPn h5 ho5
                obtain ⟨j, C5, e5, hj, rfl, BP, h5, ho5⟩ := hrel
                have hoz := ho5.size
                have h6z := E6.size
                have E6r := E6.only1 (by rw [HGP.out]; exact Nat.le_refl _) ho5
                by_cases hlt : j < n
                · have hj1 : j < zX.length := by rw [HLX.out]; exact hlt
                  have hj2 : j < own.length := by rw [HWL.out]; exact hlt
                  obtain ⟨yd, hYA, hx1c⟩ := (rX.ext E0).at_ hj1
                  injection hYA with hYA
                  subst hYA
                  have hW5 := hW.keepBlk BPe (by decide) ho5
                  obtain ⟨og, hGA, hx2c⟩ := hW5.rd.at_ hj2
                  subst hGA
                  have hap9 : (og.add j).block ∉ fpI C5 := by
                    rw [blk_add]
                    intro hh
                    have h8 := hWlo og.block (by simp [fpI])
                    have h9 := h5.high _ hh
                    omega
                  have r1 := BX.out _ (List.getElem_mem hj1)
                  have r2 := BOW.out _ (List.getElem_mem hj2)
                  have HST : Hid (pmR q z xA xB xD xF yv zS es rs own zW zT zX n n (j + 1) = pmR q z xA xB xD xF yv zS es rs own zW zT zX n n j ++ [(zX[j] + z * own[j]) % q]) := by show _ = _; rw [pmR_m]; unfold pmU; rw [getD_lt hj1, getD_lt hj2]
                  generalize zX[j] = xj at *
                  generalize own[j] = oj at *
                  have r5 := mul_le4 hqb (a := z) (b := oj) (q := q) (by omega) (by omega)
                  have wr1 : IntKind.i64.wrap (z * oj) = z * oj := IntWalk.i64_in _ (by omega)
                  have wr2 : IntKind.i64.wrap (xj + z * oj) = xj + z * oj := IntWalk.i64_in _ (by omega)
                  clear hj1 hj2
                  have hjn : (j : Int) < (n : Int) := by omega
                  have hj0 : (0 : Int) ≤ (j : Int) := by omega
                  have hS : ∀ V, Ext v6 V → Blk V gp 30 #[.slice C1 n e1, .slice C2 n e2, .slice C3 (5 + n) e3, .slice (some ⟨g4, 0, none⟩) 1 1, .slice C5 (4 + n + j) e5] → V.cell? (og.add j) = some (.int .i64 oj) → V.cell? ⟨w.heap.size, 0, none⟩ = some (.int .i64 p) ∧ V.cell? ⟨w.heap.size, 1, none⟩ = some (.int .i64 q) ∧ V.cell? ⟨w.heap.size, 2, none⟩ = some (.int .i64 g) ∧ V.cell? ⟨gp, 4, none⟩ = some (.slice C5 (4 + n + j) e5) ∧ V.cell? (b7.add j) = some (.int .i64 xj) ∧ V.cell? (og.add j) = some (.int .i64 oj) := fun V hV hP hcc => by
                    have a0 := (B06.ext hV).cells
                    have a3 := hP.cells
                    exact ⟨a0 0, a0 1, a0 2, a3 4, hV.cell hx1c, hcc⟩
                  go_upto_region 40 with (fail)
                  as_aux_lemma =>
                    refine wp_region_heldL (S := fun V => V.cell? ⟨w.heap.size, 0, none⟩ = some (.int .i64 p) ∧ V.cell? ⟨w.heap.size, 1, none⟩ = some (.int .i64 q) ∧ V.cell? ⟨w.heap.size, 2, none⟩ = some (.int .i64 g) ∧ V.cell? ⟨gp, 4, none⟩ = some (.slice C5 (4 + n + j) e5) ∧ V.cell? (b7.add j) = some (.int .i64 xj) ∧ V.cell? (og.add j) = some (.int .i64 oj)) 20 (by kernel_rfl) ?_ (fun hHeld => ?_)
                    · exact hS _ (by repeat (first | with_reducible assumption | with_reducible exact Ext.refl _ | with_reducible apply Ext.alloc | with_reducible apply Ext.drew | with_reducible apply Ext.drewN)) (by first | assumption | exact Blk.ext BP (by repeat (first | with_reducible assumption | with_reducible exact Ext.refl _ | with_reducible apply Ext.alloc | with_reducible apply Ext.drew | with_reducible apply Ext.drewN))) (by first | assumption | exact Ext.cell (by repeat (first | with_reducible assumption | with_reducible exact Ext.refl _ | with_reducible apply Ext.alloc | with_reducible apply Ext.drew | with_reducible apply Ext.drewN)) hx2c)
                    refine' wpAnyL_take (i := 0) (v := _) ?hi0 (by kernel_rfl) (by kernel_rfl) (by kernel_rfl) [20] (by kernel_rfl) ?hQ0 ?hy0 (by assumption) ?_
                    case hi0 => (simp only [List.getElem?_toArray, List.getElem?_cons_zero]; rfl)
                    case hy0 => refine Or.inl ⟨by rfl, ?_⟩; intro w hSw; (try dsimp only at hSw); go_simp <;> with_reducible rfl
                    case hQ0 => exact fun _ _ _ h => h
                    try simp only [Act.put, List.setIfInBounds_toArray, List.set_cons_zero, List.set_cons_succ]
                    refine' wpAnyL_take (i := 1) (v := _) ?hi1 (by kernel_rfl) (by kernel_rfl) (by kernel_rfl) [20] (by kernel_rfl) ?hQ1 ?hy1 (by assumption) ?_
                    case hi1 => (simp only [List.getElem?_toArray, List.getElem?_cons_succ, List.getElem?_cons_zero]; rfl)
                    case hy1 => refine Or.inl ⟨by rfl, ?_⟩; intro w hSw; (try dsimp only at hSw); go_simp <;> with_reducible rfl
                    case hQ1 => exact fun _ _ _ h => h
                    try simp only [Act.put, List.setIfInBounds_toArray, List.set_cons_zero, List.set_cons_succ]
                    refine' wpAnyL_take (i := 2) (v := _) ?hi2 (by kernel_rfl) (by kernel_rfl) (by kernel_rfl) [20] (by kernel_rfl) ?hQ2 ?hy2 (by assumption) ?_
                    case hi2 => (simp only [List.getElem?_toArray, List.getElem?_cons_succ, List.getElem?_cons_zero]; rfl)
                    case hy2 => refine Or.inl ⟨by rfl, ?_⟩; intro w hSw; (try dsimp only at hSw); go_simp <;> with_reducible rfl
                    case hQ2 => exact fun _ _ _ h => h
                    try simp only [Act.put, List.setIfInBounds_toArray, List.set_cons_zero, List.set_cons_succ]
                    refine' wpAnyL_take (i := 3) (v := _) ?hi3 (by kernel_rfl) (by kernel_rfl) (by kernel_rfl) [20] (by kernel_rfl) ?hQ3 ?hy3 (by assumption) ?_
                    case hi3 => (simp only [List.getElem?_toArray, List.getElem?_cons_succ, List.getElem?_cons_zero]; rfl)
                    case hy3 => refine Or.inl ⟨by rfl, ?_⟩; intro w hSw; (try dsimp only at hSw); go_simp <;> with_reducible rfl
                    case hQ3 => exact fun _ _ _ h => h
                    try simp only [Act.put, List.setIfInBounds_toArray, List.set_cons_zero, List.set_cons_succ]
                    refine' wpAnyL_take (i := 4) (v := _) ?hi4 (by kernel_rfl) (by kernel_rfl) (by kernel_rfl) [20] (by kernel_rfl) ?hQ4 ?hy4 (by assumption) ?_
                    case hi4 => (simp only [List.getElem?_toArray, List.getElem?_cons_succ, List.getElem?_cons_zero]; rfl)
                    case hy4 => refine Or.inl ⟨by rfl, ?_⟩; intro w hSw; (try dsimp only at hSw); go_simp <;> with_reducible rfl
                    case hQ4 => exact fun _ _ _ h => h
                    try simp only [Act.put, List.setIfInBounds_toArray, List.set_cons_zero, List.set_cons_succ]
                    refine' wpAnyL_take (i := 5) (v := _) ?hi5 (by kernel_rfl) (by kernel_rfl) (by kernel_rfl) [20] (by kernel_rfl) ?hQ5 ?hy5 (by assumption) ?_
                    case hi5 => (simp only [List.getElem?_toArray, List.getElem?_cons_succ, List.getElem?_cons_zero]; rfl)
                    case hy5 => refine Or.inl ⟨by rfl, ?_⟩; intro w hSw; (try dsimp only at hSw); go_simp <;> with_reducible rfl
                    case hQ5 => exact fun _ _ _ h => h
                    try simp only [Act.put, List.setIfInBounds_toArray, List.set_cons_zero, List.set_cons_succ]
                    refine' wpAnyL_take (i := 6) (v := _) ?hi6 (by kernel_rfl) (by kernel_rfl) (by kernel_rfl) [20] (by kernel_rfl) ?hQ6 ?hy6 (by assumption) ?_
                    case hi6 => (simp only [List.getElem?_toArray, List.getElem?_cons_succ, List.getElem?_cons_zero]; rfl)
                    case hy6 => refine Or.inl ⟨by rfl, ?_⟩; intro w hSw; (try dsimp only at hSw); go_simp <;> with_reducible rfl
                    case hQ6 => exact fun _ _ _ h => h
                    try simp only [Act.put, List.setIfInBounds_toArray, List.set_cons_zero, List.set_cons_succ]
                    refine' wpAnyL_take (i := 7) (v := _) ?hi7 (by kernel_rfl) (by kernel_rfl) (by kernel_rfl) [20] (by kernel_rfl) ?hQ7 ?hy7 (by assumption) ?_
                    case hi7 => (simp only [List.getElem?_toArray, List.getElem?_cons_succ, List.getElem?_cons_zero]; rfl)
                    case hy7 => refine Or.inl ⟨by rfl, ?_⟩; intro w hSw; (try dsimp only at hSw); go_simp <;> with_reducible rfl
                    case hQ7 => exact fun _ _ _ h => h
                    try simp only [Act.put, List.setIfInBounds_toArray, List.set_cons_zero, List.set_cons_succ]
                    refine' wpAnyL_take (i := 8) (v := _) ?hi8 (by kernel_rfl) (by kernel_rfl) (by kernel_rfl) [20] (by kernel_rfl) ?hQ8 ?hy8 (by assumption) ?_
                    case hi8 => (simp only [List.getElem?_toArray, List.getElem?_cons_succ, List.getElem?_cons_zero]; rfl)
                    case hy8 => refine Or.inl ⟨by rfl, ?_⟩; intro w hSw; (try dsimp only at hSw); go_simp <;> with_reducible rfl
                    case hQ8 => exact fun _ _ _ h => h
                    try simp only [Act.put, List.setIfInBounds_toArray, List.set_cons_zero, List.set_cons_succ]
                    refine' wpAnyL_take (i := 9) (v := _) ?hi9 (by kernel_rfl) (by kernel_rfl) (by kernel_rfl) [20] (by kernel_rfl) ?hQ9 ?hy9 (by assumption) ?_
                    case hi9 => (simp only [List.getElem?_toArray, List.getElem?_cons_succ, List.getElem?_cons_zero]; rfl)
                    case hy9 => refine Or.inl ⟨by rfl, ?_⟩; intro w hSw; (try dsimp only at hSw); go_simp <;> with_reducible rfl
                    case hQ9 => exact fun _ _ _ h => h
                    try simp only [Act.put, List.setIfInBounds_toArray, List.set_cons_zero, List.set_cons_succ]
                    refine' wpAnyL_take (i := 10) (v := _) ?hi10 (by kernel_rfl) (by kernel_rfl) (by kernel_rfl) [20] (by kernel_rfl) ?hQ10 ?hy10 (by assumption) ?_
                    case hi10 => (simp only [List.getElem?_toArray, List.getElem?_cons_succ, List.getElem?_cons_zero]; rfl)
                    case hy10 => refine Or.inl ⟨by rfl, ?_⟩; intro w hSw; (try dsimp only at hSw); go_simp <;> with_reducible rfl
                    case hQ10 => exact fun _ _ _ h => h
                    try simp only [Act.put, List.setIfInBounds_toArray, List.set_cons_zero, List.set_cons_succ]
                    refine' wpAnyL_take (i := 11) (v := _) ?hi11 (by kernel_rfl) (by kernel_rfl) (by kernel_rfl) [20] (by kernel_rfl) ?hQ11 ?hy11 (by assumption) ?_
                    case hi11 => (simp only [List.getElem?_toArray, List.getElem?_cons_succ, List.getElem?_cons_zero]; rfl)
                    case hy11 => refine Or.inl ⟨by rfl, ?_⟩; intro w hSw; (try dsimp only at hSw); go_simp <;> with_reducible rfl
                    case hQ11 => exact fun _ _ _ h => h
                    try simp only [Act.put, List.setIfInBounds_toArray, List.set_cons_zero, List.set_cons_succ]
                    refine' wpAnyL_take (i := 12) (v := _) ?hi12 (by kernel_rfl) (by kernel_rfl) (by kernel_rfl) [20] (by kernel_rfl) ?hQ12 ?hy12 (by assumption) ?_
                    case hi12 => (simp only [List.getElem?_toArray, List.getElem?_cons_succ, List.getElem?_cons_zero]; rfl)
                    case hy12 => refine Or.inl ⟨by rfl, ?_⟩; intro w hSw; (try dsimp only at hSw); go_simp <;> with_reducible rfl
                    case hQ12 => exact fun _ _ _ h => h
                    try simp only [Act.put, List.setIfInBounds_toArray, List.set_cons_zero, List.set_cons_succ]
                    refine' wpAnyL_take (i := 13) (v := _) ?hi13 (by kernel_rfl) (by kernel_rfl) (by kernel_rfl) [20] (by kernel_rfl) ?hQ13 ?hy13 (by assumption) ?_
                    case hi13 => (simp only [List.getElem?_toArray, List.getElem?_cons_succ, List.getElem?_cons_zero]; rfl)
                    case hy13 => refine Or.inl ⟨by rfl, ?_⟩; intro w hSw; (try dsimp only at hSw); go_simp <;> with_reducible rfl
                    case hQ13 => exact fun _ _ _ h => h
                    try simp only [Act.put, List.setIfInBounds_toArray, List.set_cons_zero, List.set_cons_succ]
                    refine' wpAnyL_take (i := 14) (v := _) ?hi14 (by kernel_rfl) (by kernel_rfl) (by kernel_rfl) [20] (by kernel_rfl) ?hQ14 ?hy14 (by assumption) ?_
                    case hi14 => (simp only [List.getElem?_toArray, List.getElem?_cons_succ, List.getElem?_cons_zero]; rfl)
                    case hy14 => refine Or.inl ⟨by rfl, ?_⟩; intro w hSw; (try dsimp only at hSw); go_simp <;> with_reducible rfl
                    case hQ14 => exact fun _ _ _ h => h
                    try simp only [Act.put, List.setIfInBounds_toArray, List.set_cons_zero, List.set_cons_succ]
                    refine wpAnyL_ready (rs := [15]) (by kernel_rfl) (by simp) ?_
                    refine AllReadyL.cons rfl (by kernel_rfl) (fun KK hKK => ?_) ?_
                    · go_simp
                      go_at_call 66
                      refine (exp_any p q g (xj + z * oj) _ hB (by omega) (by omega)).mono ?_
                      rintro ek wk15 ⟨rfl, hbk15⟩
                      have hxk15 := Ext.trans (w := v6) (by repeat (first | with_reducible assumption | with_reducible exact Ext.refl _ | with_reducible apply Ext.alloc | with_reducible apply Ext.drew | with_reducible apply Ext.drewN)) hbk15
                      have hyk15 := Ext.trans (w := wr) (by repeat (first | with_reducible assumption | with_reducible exact Ext.refl _ | with_reducible apply Ext.alloc | with_reducible apply Ext.drew | with_reducible apply Ext.drewN)) hbk15
                      refine hKK.out _ _ ?_ (fun hHeld => ?_)
                      · exact hS _ (by repeat (first | with_reducible assumption | with_reducible exact Ext.refl _ | with_reducible apply Ext.alloc | with_reducible apply Ext.drew | with_reducible apply Ext.drewN)) (by first | assumption | exact Blk.ext BP (by repeat (first | with_reducible assumption | with_reducible exact Ext.refl _ | with_reducible apply Ext.alloc | with_reducible apply Ext.drew | with_reducible apply Ext.drewN))) (by first | assumption | exact Ext.cell (by repeat (first | with_reducible assumption | with_reducible exact Ext.refl _ | with_reducible apply Ext.alloc | with_reducible apply Ext.drew | with_reducible apply Ext.drewN)) hx2c)
                      clear hKK KK
                      try simp only [Act.put, List.setIfInBounds_toArray, List.set_cons_zero, List.set_cons_succ]
                      refine wpAnyL_ready (rs := [16]) (by kernel_rfl) (by simp) ?_
                      refine AllReadyL.cons rfl (by kernel_rfl) (fun KK hKK => ?_) ?_
                      · go_simp
                        refine hKK.out _ _ ?_ (fun hHeld => ?_)
                        · exact hS _ (by repeat (first | with_reducible assumption | with_reducible exact Ext.refl _ | with_reducible apply Ext.alloc | with_reducible apply Ext.drew | with_reducible apply Ext.drewN)) (by first | assumption | exact Blk.ext BP (by repeat (first | with_reducible assumption | with_reducible exact Ext.refl _ | with_reducible apply Ext.alloc | with_reducible apply Ext.drew | with_reducible apply Ext.drewN))) (by first | assumption | exact Ext.cell (by repeat (first | with_reducible assumption | with_reducible exact Ext.refl _ | with_reducible apply Ext.alloc | with_reducible apply Ext.drew | with_reducible apply Ext.drewN)) hx2c)
                        clear hKK KK
                        try simp only [Act.put, List.setIfInBounds_toArray, List.set_cons_zero, List.set_cons_succ]
                        refine wpAnyL_ready (rs := [17]) (by kernel_rfl) (by simp) ?_
                        refine AllReadyL.cons rfl (by kernel_rfl) (fun KK hKK => ?_) ?_
                        · refine step_app1L intSl (by rfl) _ _ (by rfl) (h5.ext (by repeat (first | with_reducible assumption | with_reducible exact Ext.refl _ | with_reducible apply Ext.alloc | with_reducible apply Ext.drew | with_reducible apply Ext.drewN))) (by rfl) _ (by rfl) (cell_new (w := wk15) (by first | rfl | (simp; done)) (by repeat (first | with_reducible assumption | with_reducible exact Ext.refl _ | with_reducible apply Ext.alloc | with_reducible apply Ext.drew | with_reducible apply Ext.drewN))) (by omega) (Nat.le_trans hoz (Ext.size (w := wr) (by repeat (first | with_reducible assumption | with_reducible exact Ext.refl _ | with_reducible apply Ext.alloc | with_reducible apply Ext.drew | with_reducible apply Ext.drewN)))) ?_
                          intro V3 d2 w3 hV3 hon2 hli2
                          have hx3 := Ext.only (w := v6) (by repeat (first | with_reducible assumption | with_reducible exact Ext.refl _ | with_reducible apply Ext.alloc | with_reducible apply Ext.drew | with_reducible apply Ext.drewN)) hon2 (h5.high.mono h6z)
                          have BP7 := Blk.only (Blk.ext BP (by repeat (first | with_reducible assumption | with_reducible exact Ext.refl _ | with_reducible apply Ext.alloc | with_reducible apply Ext.drew | with_reducible apply Ext.drewN))) hon2 (Blk.off_own BP h5.w (by decide))
                          have hc7 := hon2.cellK (Ext.cell (w := wr) (by repeat (first | with_reducible assumption | with_reducible exact Ext.refl _ | with_reducible apply Ext.alloc | with_reducible apply Ext.drew | with_reducible apply Ext.drewN)) hx2c) hap9
                          have ho7 := (Only.addHigh (Only.addExt ho5 (by repeat (first | with_reducible assumption | with_reducible exact Ext.refl _ | with_reducible apply Ext.alloc | with_reducible apply Ext.drew | with_reducible apply Ext.drewN))) hon2 h5.high)
                          refine hKK.out _ _ ?_ (fun hHeld => ?_)
                          · exact hS _ (by repeat (first | with_reducible assumption | with_reducible exact Ext.refl _ | with_reducible apply Ext.alloc | with_reducible apply Ext.drew | with_reducible apply Ext.drewN)) (by first | assumption | exact Blk.ext BP (by repeat (first | with_reducible assumption | with_reducible exact Ext.refl _ | with_reducible apply Ext.alloc | with_reducible apply Ext.drew | with_reducible apply Ext.drewN))) (by first | assumption | exact Ext.cell (by repeat (first | with_reducible assumption | with_reducible exact Ext.refl _ | with_reducible apply Ext.alloc | with_reducible apply Ext.drew | with_reducible apply Ext.drewN)) hx2c)
                          clear hKK KK
                          try simp only [List.getElem_toArray, List.getElem_cons_succ, List.getElem_cons_zero]
                          try simp only [Act.put, List.setIfInBounds_toArray, List.set_cons_zero, List.set_cons_succ]
                          refine' wpAnyL_take (i := 18) (v := _) ?hi18 (by kernel_rfl) (by kernel_rfl) (by kernel_rfl) [19, 20] (by kernel_rfl) ?hQ18 ?hy18 (by assumption) ?_
                          case hi18 => (simp only [List.getElem?_toArray, List.getElem?_cons_succ, List.getElem?_cons_zero]; rfl)
                          case hy18 => refine Or.inl ⟨by rfl, ?_⟩; intro w hSw; (try dsimp only at hSw); go_simp <;> with_reducible rfl
                          case hQ18 => exact fun _ _ _ h => h
                          try simp only [Act.put, List.setIfInBounds_toArray, List.set_cons_zero, List.set_cons_succ]
                          refine' wpAnyL_take (i := 19) (v := _) ?hi19 (by kernel_rfl) (by kernel_rfl) (by kernel_rfl) [20] (by kernel_rfl) ?hQ19 ?hy19 (by assumption) ?_
                          case hi19 => (simp only [List.getElem?_toArray, List.getElem?_cons_succ, List.getElem?_cons_zero]; rfl)
                          case hy19 => refine Or.inl ⟨by rfl, ?_⟩; intro w hSw; (try dsimp only at hSw); go_simp <;> with_reducible rfl
                          case hQ19 => exact fun _ _ _ h => h
                          try simp only [Act.put, List.setIfInBounds_toArray, List.set_cons_zero, List.set_cons_succ]
                          refine wpAnyL_ready (rs := [20]) (by kernel_rfl) (by simp) ?_
                          refine AllReadyL.last rfl (by kernel_rfl) (fun KK hKK => ?_) ?_
                          · have FN := BP7.frozen
                            have CN := BP7.cells
                            go_simp
                            refine hKK.out _ _ ?_
                            clear hKK KK
                            try simp only [Act.put, List.setIfInBounds_toArray, List.set_cons_zero, List.set_cons_succ]
                            refine wpAny_done (by kernel_rfl) ?_ _
                            have hV4 := hV3.keepBlk BP7 (by decide) ((Only.refl _ _).setCell (p := ⟨gp, 4, none⟩) (by simp) (.slice V3 (4 + n + j + 1) d2))
                            rw [← HST.out] at hV4
                            go_wp2
                            go_roundw
                            case rel => exact ⟨j + 1, V3, d2, by omega, by go_num, BP7.set_ 4 _, hV4, ho7.setCell (by simp) _⟩
                            case measure => first | (simp [intOf]; done) | (simp [intOf]; omega)
                          exact AllReadyL.nil
                        exact AllReadyL.nil
                      exact AllReadyL.nil
                    exact AllReadyL.nil
                · obtain rfl : n = j := by omega
                  clear hlt
                  have hb2 := B2.only ho5 (by first | (simp; done) | (simp; omega))
                  have Ez := E.only1 (by omega) ho5
                  have CN := hb2.cells
                  have FZ := hb2.frozen
                  have CB := BP.cells
                  have CZ := (((((hb2.set_ 0 (.slice C1 n e1)).set_ 1 (.slice C2 n e2)).set_ 2 (.slice C3 (5 + n) e3)).set_ 3 (.slice (some ⟨g4, 0, none⟩) 1 1)).set_ 4 (.slice C5 (4 + n + n) e5)).cells
                  have g1 := h1.keepBlk BPe (by decide) ho5
                  have g2 := h2.keepBlk BPe (by decide) ho5
                  have g3 := h3.keepBlk BPe (by decide) ho5
                  have gg4 := h4.keepBlk BPe (by decide) ho5
                  have hwz := E.size
                  have hw6 := E0.size
                  have G5 := h5.high
                  have oL : OwnL wr w.heap.size [(C1, n, e1), (C2, n, e2), (C3, 5 + n, e3), (some ⟨g4, 0, none⟩, 1, 1), (C5, 4 + n + n, e5)] [co, cn, cm, [z], pmR q z xA xB xD xF yv zS es rs own zW zT zX n n n] :=
                    own_five g1 g2 (g3.more (by omega)) (gg4.more (by omega)) (h5.more (by omega)) L1 (by rw [← HGP.out]; exact G2) L2c G3 L38 G4 L4 G5 (by rw [← HGP.out]; exact hc6) hc4 (by have := L4 g4 (by simp [fpI]); omega)
                  have hPE : PvEq p q g key H hs a perm rs cs n co cn cm z (pmR q z xA xB xD xF yv zS es rs own zW zT zX n n n) :=
                    ⟨ou, es, own, yv, HOU.out, by rw [HSE.out]; exact HCO.out, HES.out, HOW.out, by rw [HTE.out]; exact HCN.out, by rw [HTE.out]; exact HYV.out, by rw [HxA.out, HxB.out, HxD.out, HxF.out, HWE.out, HXE.out]; exact HCM.out, HZ.out, by rw [HxA.out, HxB.out, HxD.out, HxF.out, HSE.out, HWE.out, HTE.out, HXE.out]⟩
                  go_wp2
                  refine bodyPost_ret (v := .tuple #[.agg #[.slice C1 n e1, .slice C2 n e2, .slice C3 (5 + n) e3, .slice (some ⟨g4, 0, none⟩) 1 1, .slice C5 (4 + n + n) e5], .bool true]) (by simp [results, Tryz.results26, CZ, go_sem]) rfl ⟨C1, e1, C2, e2, C3, e3, _, 1, C5, e5, co, cn, cm, z, _, rfl, hPE, oL.keepBlk5 hb2 (by decide) (only_five _ _ _ _ _ _ _), Ez.only1 (by omega) (only_five _ _ _ _ _ _ _)⟩
end Go.Proofs.YtnhdohjlbchniaaGreat
