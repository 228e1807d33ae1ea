/- Contracts for the laws' own functions on dealings and lists of them: copies, comparisons, marks, sizes. (Printed by tools/gen_dls.py.) -/
import Derived.Test.YtnhdohjlbchniaaProg
import Derived.Test.YtnhdohjlbchniaaRw
import Derived.Test.YtnhdohjlbchniaaSlK
namespace Go.Proofs.Ytnhdohjlbchniaa
open Go.RowKit

theorem flD_take {ds : List (List Int × List Int)} {j : Nat} (hj : j < ds.length) : flD (ds.take (j + 1)) = flD (ds.take j) ++ [ds[j].1, ds[j].2] := by
  rw [List.take_succ_eq_append_getElem hj, flD_append]; rfl
theorem totD_succ {ds : List (List Int × List Int)} {j : Nat} (hj : j < ds.length) : tot (flD (ds.take (j + 1))) = tot (flD (ds.take j)) + (ds[j].1.length + ds[j].2.length) := by
  rw [flD_take hj, tot_append]; simp [tot]
theorem totD_le (ds : List (List Int × List Int)) (j : Nat) : tot (flD (ds.take j)) ≤ tot (flD ds) := by
  conv => rhs; rw [← List.take_append_drop j ds]
  rw [flD_append, tot_append]; omega
theorem totD_at {ds : List (List Int × List Int)} {j : Nat} (hj : j < ds.length) : tot (flD (ds.take j)) + (ds[j].1.length + ds[j].2.length) ≤ tot (flD ds) := by
  rw [← totD_succ hj]; exact totD_le _ _
theorem padD_set {ds : List (List Int × List Int)} {j : Nat} (hj : j < ds.length) : ((flD (ds.take j) ++ List.replicate ((ds.length - j) * 2) []).set (j * 2) ds[j].1).set (j * 2 + 1) ds[j].2 = flD (ds.take (j + 1)) ++ List.replicate ((ds.length - (j + 1)) * 2) [] := by
  have h1 : (flD (ds.take j)).length = j * 2 := by rw [flD_length, List.length_take]; omega
  have h2 : (ds.length - j) * 2 = (ds.length - (j + 1)) * 2 + 1 + 1 := by omega
  rw [List.set_append_right _ _ (by omega), h1, Nat.sub_self, h2, List.replicate_succ, List.replicate_succ, List.set_cons_zero, List.set_append_right _ _ (by omega), h1, show j * 2 + 1 - j * 2 = 1 by omega, List.set_cons_succ, List.set_cons_zero, flD_take hj]
  simp
/-- t is the type of slices of pairs of slices. -/
structure DealSl (P : Program) (t e : TypeId) : Prop where
  ht : P.underlying t = some (.slice e)
  hi : ∃ i, P.info? e = some i ∧ i.zero = some (.agg #[.slice none 0 0, .slice none 0 0]) ∧ i.size = 2 ∧ i.bytes = 48
theorem rep2 (n : Nat) (z : Value) : (madeCells #[z, z] (n * 2)).toList = List.replicate (n * 2) z := by
  apply List.ext_getElem?
  intro j
  by_cases hj : j < n * 2
  · rw [List.getElem?_replicate, if_pos hj]
    have : j % 2 = 0 ∨ j % 2 = 1 := by omega
    rcases this with h | h <;> simp [madeCells, hj, h]
  · rw [List.getElem?_eq_none (by simp [madeCells]; omega), List.getElem?_eq_none (by simp; omega)]
/-- 'make([]T, n)'. -/
theorem wpList_mkD {P : Program} {w : World} {ops : Array Oper} {rest : List Oper} {o : Oper} {a : Act} {Q : Exit → Act → World → Prop} {t e : TypeId} (S : DealSl P t e)
    (hg : o.guard = none) (l c : Operand) (hop : o.op = Op.makeSlice t l c) (kl kc : IntKind) (L C : Int) (n : Nat) (hl : a.eval l = .int kl L) (hc : a.eval c = .int kc C) (hL : L = (n : Int)) (hC : C = (n : Int)) (hn : n ≤ 1000000000)
    (base : Nat) (hb : base ≤ w.heap.size)
    (hK : ∀ w', OwnW 2 w' base e (some ⟨w.heap.size, 0, none⟩) n n (List.replicate (n * 2) (.slice none 0 0)) → Ext w w' → w.heap.size < w'.heap.size → wpList P ops Q rest (a.put o.dst (.slice (some ⟨w.heap.size, 0, none⟩) n n)) w') :
    wpList P ops Q (o :: rest) a w := by
  obtain ⟨i, h2, h3, h4, h5⟩ := S.hi
  refine wpList_make_full (P := P) w hg l c t hop base e i (.agg #[.slice none 0 0, .slice none 0 0]) 2 S.ht h2 h3 h4 kl kc L C n hl hc hL hC (by rw [h5]; omega) (by unfold maxLen; omega) hb fun w' hw hgr => ?_
  have h6 : OwnW 2 w' base e (some ⟨w.heap.size, 0, none⟩) n n (List.replicate (n * 2) (.slice none 0 0)) := by
    unfold OwnW
    rw [← rep2]
    exact hw
  exact hK w' h6 ((Ext.refl w).grown hgr (by simp)) (h6.lt _ rfl).2
theorem dealSl : DealSl Try.prog 34 68 := by
  refine ⟨Try.underlying34, ?_⟩
  have h : (Try.prog.info? 68).map (fun i => (i.zero, i.size, i.bytes)) = some (some (.agg #[.slice none 0 0, .slice none 0 0]), 2, 48) := by kernel_rfl
  exact info_parts h
set_option maxHeartbeats 1000000 in
theorem toDealing_any (A : Option Addr) (n c : Nat) (B : Option Addr) (m d : Nat) (l k : List Int) (w : World) (ha : RdI w A l) (hl : l.length = n) (hb : RdI w B k) (hk : k.length = m) (hn : n + m ≤ 1000000000) :
    Calls Try.prog 40 #[.agg #[.slice A n c, .slice B m d]] w fun e w' => ∃ A' c' B' d', e = .returned (.agg #[.slice A' n c', .slice B' m d']) ∧ OwnK w' w.heap.size A' n c' B' m d' l k ∧ Ext w w' := by
  subst hl hk
  have E := (((Ext.refl w).alloc (.cells #[.slice A l.length c, .slice B k.length d] 62)).alloc (.cells #[.slice none 0 0, .slice none 0 0] 68)).alloc (.cells #[.slice none 0 0, .slice none 0 0] 68)
  have B0 := ((Blk.new w 62 #[.slice A l.length c, .slice B k.length d]).alloc (.cells #[.slice none 0 0, .slice none 0 0] 68)).alloc (.cells #[.slice none 0 0, .slice none 0 0] 68)
  have B1 := (Blk.new (w.alloc (.cells #[.slice A l.length c, .slice B k.length d] 62)) 68 #[.slice none 0 0, .slice none 0 0]).alloc (.cells #[.slice none 0 0, .slice none 0 0] 68)
  have B2 := Blk.new ((w.alloc (.cells #[.slice A l.length c, .slice B k.length d] 62)).alloc (.cells #[.slice none 0 0, .slice none 0 0] 68)) 68 #[.slice none 0 0, .slice none 0 0]
  simp only [World.size_alloc] at B1 B2
  go_enter Try.func40, Try.ntmps40
  go_wp2_with fail
  generalize ((w.alloc (.cells #[.slice A l.length c, .slice B k.length d] 62)).alloc (.cells #[.slice none 0 0, .slice none 0 0] 68)).alloc (.cells #[.slice none 0 0, .slice none 0 0] 68) = w0 at *
  refine (toIntS_any _ _ _ l _ (ha.ext E) rfl (by omega)).mono ?_
  rintro e w1 ⟨A1, c1, rfl, h1, e1⟩
  have z0 := E.size
  have lt1 := B1.lt
  have lt2 := B2.lt
  have S1 := ((B2.ext e1).set_ 0 (.slice A1 l.length c1))
  have S0 := (B0.ext e1).far (p := ⟨w.heap.size + 1 + 1, 0, none⟩) (by simp; omega) (.slice A1 l.length c1)
  have S9 := (B1.ext e1).far (p := ⟨w.heap.size + 1 + 1, 0, none⟩) (by simp) (.slice A1 l.length c1)
  have E1 : Ext w (w1.setCell ⟨w.heap.size + 1 + 1, 0, none⟩ (.slice A1 l.length c1)) := (E.trans e1).setCell (p := ⟨w.heap.size + 1 + 1, 0, none⟩) (by simp; omega) _
  have O1 : OwnI (w1.setCell ⟨w.heap.size + 1 + 1, 0, none⟩ (.slice A1 l.length c1)) w0.heap.size 3 A1 l.length c1 l := h1.only (fp := [w.heap.size + 1 + 1]) ((Only.refl _ _).setCell (p := ⟨w.heap.size + 1 + 1, 0, none⟩) (by simp) _) (Apart.of_high (B := w0.heap.size) (by intro b hb; simp at hb; omega) h1.high)
  have q2 := (B2.ext e1).frozen
  have c2 := (B2.ext e1).cells
  have q0 := S0.cells
  go_wp2_with fail
  have hsz : (w1.setCell ⟨w.heap.size + 1 + 1, 0, none⟩ (.slice A1 l.length c1)).heap.size = w1.heap.size := by simp [World.setCell]
  generalize w1.setCell ⟨w.heap.size + 1 + 1, 0, none⟩ (.slice A1 l.length c1) = w2 at *
  refine (toIntS_any _ _ _ k _ (hb.ext E1) rfl (by omega)).mono ?_
  rintro e w3 ⟨A2, c3, rfl, h2, e2⟩
  clear q2 c2 q0
  have T1 := ((S1.ext e2).set_ 1 (.slice A2 k.length c3))
  have T9 := ((S9.ext e2).far (p := ⟨w.heap.size + 1 + 1, 1, none⟩) (by simp) (.slice A2 k.length c3))
  have q2 := (S1.ext e2).frozen
  have c2 := (S1.ext e2).cells
  have c9 := T9.cells
  have f9 := T9.frozen
  have c4 := T1.cells
  have lt3 := T9.lt
  have E2 : Ext w (w3.setCell ⟨w.heap.size + 1 + 1, 1, none⟩ (.slice A2 k.length c3)) := (E1.trans e2).setCell (p := ⟨w.heap.size + 1 + 1, 1, none⟩) (by simp; omega) _
  have hz := e1.size
  have hon : Only [w.heap.size + 1 + 1, w.heap.size + 1] w3 (((w3.setCell ⟨w.heap.size + 1 + 1, 1, none⟩ (.slice A2 k.length c3)).setCell ⟨w.heap.size + 1, 0, none⟩ (.slice A1 l.length c1)).setCell ⟨w.heap.size + 1, 1, none⟩ (.slice A2 k.length c3)) :=
    (((Only.refl _ w3).setCell (p := ⟨w.heap.size + 1 + 1, 1, none⟩) (by simp) _).setCell (p := ⟨w.heap.size + 1, 0, none⟩) (by simp) _).setCell (p := ⟨w.heap.size + 1, 1, none⟩) (by simp) _
  have z2 := h1.low
  have z3 := e2.size
  go_wp2
  have hE := ((E2.setCell (p := ⟨w.heap.size + 1, 0, none⟩) (by simp) (.slice A1 l.length c1)).setCell (p := ⟨w.heap.size + 1, 1, none⟩) (by simp) (.slice A2 k.length c3))
  have hlo : ∀ b ∈ [w.heap.size + 1 + 1, w.heap.size + 1], b < w0.heap.size := by intro b hb; simp at hb; omega
  have hz2 := O1.low
  have hz4 : w0.heap.size ≤ w2.heap.size := by
    have := S1.lt
    have h9 : w2.heap.size = w1.heap.size := hsz
    omega
  have k1 := ((O1.ext e2).only hon (Apart.of_high (B := w0.heap.size) hlo O1.high)).more z0
  have k2 := (h2.only hon (Apart.of_high (B := w0.heap.size) hlo (h2.high.mono hz4))).more (base' := w.heap.size) (by omega)
  have cz := ((T9.set_ 0 (.slice A1 l.length c1)).set_ 1 (.slice A2 k.length c3)).cells
  refine bodyPost_ret (v := .agg #[.slice A1 l.length c1, .slice A2 k.length c3]) (by simp [results, Try.results40, cz, go_sem]) rfl ⟨A1, c1, A2, c3, rfl, ⟨k1, k2, Apart.of_low hz2 h2.high⟩, hE⟩
set_option maxHeartbeats 1000000 in
theorem eqDealing_same {A A' : Option Addr} {n c n' c' : Nat} {B B' : Option Addr} {m d m' d' : Nat} {l k : List Int} {w : World} (h1 : SlI w A n c l) (h2 : SlI w B m d k) (h3 : SlI w A' n' c' l) (h4 : SlI w B' m' d' k) :
    Calls Try.prog 52 #[.agg #[.slice A n c, .slice B m d], .agg #[.slice A' n' c', .slice B' m' d']] w fun e w' => e = .returned (.bool true) ∧ Ext w w' := by
  have E := ((Ext.refl w).alloc (.cells #[.slice A n c, .slice B m d] 68)).alloc (.cells #[.slice A' n' c', .slice B' m' d'] 68)
  have B0 := (Blk.new w 68 #[.slice A n c, .slice B m d]).alloc (.cells #[.slice A' n' c', .slice B' m' d'] 68)
  have B1 := Blk.new (w.alloc (.cells #[.slice A n c, .slice B m d] 68)) 68 #[.slice A' n' c', .slice B' m' d']
  simp only [World.size_alloc] at B1
  have q0 := B0.cells
  have q1 := B1.cells
  go_enter Try.func52, Try.ntmps52
  go_wp2_with fail
  refine (eqIntS_same (h1.rd.ext E) (h3.rd.ext E) h1.len h3.len h1.le h3.le).mono ?_
  rintro e w1 ⟨rfl, e1⟩
  clear q0 q1
  have q0 := (B0.ext e1).cells
  have q1 := (B1.ext e1).cells
  replace E := E.trans e1
  go_wp2_with fail
  refine (eqIntS_same (h2.rd.ext E) (h4.rd.ext E) h2.len h4.len h2.le h4.le).mono ?_
  rintro e w2 ⟨rfl, e2⟩
  go_wp2
  go_ret
  exact ⟨rfl, E.trans e2⟩
set_option maxHeartbeats 1000000 in
theorem szDealing_any {A : Option Addr} {n c : Nat} {B : Option Addr} {m d : Nat} {z : Int} {w : World} (hz : 0 ≤ z) (hz2 : z ≤ 1000000000) (hn : n ≤ 9223372036854775807) (hm : m ≤ 9223372036854775807) :
    Calls Try.prog 27 #[.agg #[.slice A n c, .slice B m d], .int .i64 z] w fun e w' => e = .returned (.int .i64 (if (n : Int) + m ≤ z then z - n - m else -1)) ∧ Ext w w' := by
  have B0 := Blk.new w 62 #[.slice A n c, .slice B m d]
  have E := (Ext.refl w).alloc (.cells #[.slice A n c, .slice B m d] 62)
  have q0 := B0.cells
  by_cases h1 : (n : Int) ≤ z
  · by_cases h2 : (n : Int) + m ≤ z
    · rw [if_pos h2]
      go_enter Try.func27, Try.ntmps27
      go_wp2_with fail
      refine (szInt1_yes h1 (by omega)).mono ?_
      rintro e w1 ⟨rfl, rfl⟩
      go_wp2_with fail
      refine (szInt1_yes (by omega) (by omega)).mono ?_
      rintro e w1 ⟨rfl, rfl⟩
      go_wp2
      go_ret
      exact ⟨rfl, E⟩
    · rw [if_neg h2]
      go_enter Try.func27, Try.ntmps27
      go_wp2_with fail
      refine (szInt1_yes h1 (by omega)).mono ?_
      rintro e w1 ⟨rfl, rfl⟩
      go_wp2_with fail
      refine (szInt1_no (by omega) (by omega) hm).mono ?_
      rintro e w1 ⟨rfl, rfl⟩
      go_wp2
      go_ret
      exact ⟨rfl, E⟩
  · rw [if_neg (by omega)]
    go_enter Try.func27, Try.ntmps27
    go_wp2_with fail
    refine (szInt1_no (by omega) (by omega) hn).mono ?_
    rintro e w1 ⟨rfl, rfl⟩
    go_wp2
    go_ret
    exact ⟨rfl, E⟩
theorem szDealing_yes {A : Option Addr} {n c : Nat} {B : Option Addr} {m d : Nat} {z : Int} {w : World} (h : (n : Int) + m ≤ z) (hz2 : z ≤ 1000000000) :
    Calls Try.prog 27 #[.agg #[.slice A n c, .slice B m d], .int .i64 z] w fun e w' => e = .returned (.int .i64 (z - n - m)) ∧ Ext w w' := by
  have h9 := szDealing_any (A := A) (n := n) (c := c) (B := B) (m := m) (d := d) (z := z) (w := w) (by omega) hz2 (by omega) (by omega)
  rw [if_pos h] at h9
  exact h9
theorem szDealing_no {A : Option Addr} {n c : Nat} {B : Option Addr} {m d : Nat} {z : Int} {w : World} (h : z < (n : Int) + m) (hz : 0 ≤ z) (hz2 : z ≤ 1000000000) (hn : n ≤ maxLen) (hm : m ≤ maxLen) :
    Calls Try.prog 27 #[.agg #[.slice A n c, .slice B m d], .int .i64 z] w fun e w' => e = .returned (.int .i64 (-1)) ∧ Ext w w' := by
  unfold maxLen at hn hm
  have h9 := szDealing_any (A := A) (n := n) (c := c) (B := B) (m := m) (d := d) (z := z) (w := w) hz hz2 (by omega) (by omega)
  rw [if_neg (by omega)] at h9
  exact h9
set_option maxHeartbeats 2000000 in
theorem toDealingS_any (A : Option Addr) (n c : Nat) (ds : List (List Int × List Int)) (w : World) (ha : RdD w A ds) (hl : ds.length = n) (hn : n + tot (flD ds) ≤ 1000000000) :
    Calls Try.prog 9 #[.slice A n c] w fun e w' => ∃ A' c' P, e = .returned (.slice A' n c') ∧ OwnD w' w.heap.size A' n c' P ds ∧ Ext w w' := by
  subst hl
  go_enter Try.func9, Try.ntmps9
  go_wp2_with (at_make; refine wpList_mkD dealSl rfl _ _ rfl _ _ _ _ ds.length rfl rfl rfl rfl (by omega) w.heap.size (Nat.le_refl _) ?_; intro w1 hO hE hz)
  go_loopw [4] (fun i wr => ∃ (j : Nat) (P : List Nat), j ≤ ds.length ∧ i = .int .i64 j ∧ OwnR wr w.heap.size (some ⟨w.heap.size, 0, none⟩) ds.length ds.length P (flD (ds.take j) ++ List.replicate ((ds.length - j) * 2) []) ∧ Ext w wr) (fun i _ => ds.length - (intOf i).toNat)
  case atStart => exact ⟨0, _, Nat.zero_le _, rfl, by simpa [flD] using ownR_pad hO, hE⟩
  case round =>
    clear hO hE hz
    obtain ⟨j, P, hj, rfl, hII, hE⟩ := hrel
    by_cases hlt : j < ds.length
    · obtain ⟨ad, rfl, B, m, d, D, m', d', hc, hd, hR, hS⟩ := (ha.ext hE).at_ hlt
      have ht := totD_at hlt
      have hps := padD_set hlt
      have hll : (flD (ds.take j) ++ List.replicate ((ds.length - j) * 2) ([] : List Int)).length = ds.length * 2 := hII.len
      generalize ds[j].1 = l at *
      generalize ds[j].2 = k at *
      have HP := Lib.hid hps
      clear hps
      have hlow := hII.low
      have hwz := hE.size
      have hl1 := hR.len
      have hl2 := hS.len
      go_wp2_with fail
      refine (toDealing_any _ _ _ _ _ _ l k _ hR.rd hR.len hS.rd hS.len (by omega)).mono ?_
      rintro e w2 ⟨A2, c2, B2, d2, rfl, hO2, hE2⟩
      have hap : Apart (fpI A2 ++ fpI B2) P := Apart.of_high hlow hO2.high
      obtain ⟨P', hII2⟩ := (hII.ext hE2).lay (j := j * 2) (by rw [hll]; omega) (hO2.more hwz) hap
      rw [HP.out] at hII2
      obtain ⟨g, B', m1, d1, hg, hcell, _⟩ := (hII.ext hE2).row (j := j * 2) (by rw [hll]; omega)
      obtain ⟨g', B9, m9, d9, hg9, hcell9, _⟩ := (hII.ext hE2).row (j := j * 2 + 1) (by rw [hll]; omega)
      obtain rfl : g = w.heap.size := by simpa using hg.symm
      obtain rfl : g' = w.heap.size := by simpa using hg9.symm
      have hfr := ((hII.ext hE2).frz (j * 2)).out
      have hfr2 := ((hII.ext hE2).frz (j * 2 + 1)).out
      clear hg hg9
      go_wp2
      go_roundw
      case rel => exact ⟨j + 1, P', by omega, by go_num, hII2, ((hE.trans hE2).setCell (p := ⟨w.heap.size, j * 2, none⟩) (Nat.le_refl _) _).setCell (p := ⟨w.heap.size, j * 2 + 1, none⟩) (Nat.le_refl _) _⟩
      case measure => simp [intOf]; omega
    · obtain rfl : j = ds.length := by omega
      rw [List.take_length, Nat.sub_self, Nat.zero_mul, List.replicate_zero, List.append_nil] at hII
      go_wp2
      go_ret
      exact ⟨_, _, _, rfl, hII, hE⟩
set_option maxHeartbeats 2000000 in
theorem eqDealingS_same {A B : Option Addr} {n m c d : Nat} {ds : List (List Int × List Int)} {w : World} (ha : RdD w A ds) (hb : RdD w B ds) (hl : ds.length = n) (hk : ds.length = m) (hn : n ≤ maxLen) (hm : m ≤ maxLen) :
    Calls Try.prog 13 #[.slice A n c, .slice B m d] w fun e w' => e = .returned (.bool true) ∧ Ext w w' := by
  unfold maxLen at hn hm
  subst hl
  have hne' : ((ds.length : Int) != (m : Int)) = false := by simp [hk]
  have HE := Lib.hid hk
  clear hk
  go_enter Try.func13, Try.ntmps13
  go_wp2
  go_loopw [5] (fun i wr => ∃ j : Nat, j ≤ ds.length ∧ i = .int .i64 j ∧ Ext w wr) (fun i _ => ds.length - (intOf i).toNat)
  case atStart => exact ⟨0, Nat.zero_le _, rfl, Ext.refl _⟩
  case round =>
    obtain ⟨j, hj, rfl, hE⟩ := hrel
    by_cases hlt : j < ds.length
    · have hlt' : j < m := by rw [← HE.out]; exact hlt
      obtain ⟨ad, rfl, A1, n1, c1, A2, n2, c2, hca, hda, s1, s2⟩ := (ha.ext hE).at_ hlt
      obtain ⟨bd, rfl, B1, m1, e1, B2, m2, e2, hcb, hdb, s3, s4⟩ := (hb.ext hE).at_ hlt
      generalize ds[j].1 = l at *
      generalize ds[j].2 = k at *
      have hS : ∀ V, Ext wr V → V.cell? (ad.add (j * 2)) = some (.slice A1 n1 c1) ∧ V.cell? ⟨(ad.add (j * 2)).block, (ad.add (j * 2)).off + 1, none⟩ = some (.slice A2 n2 c2) ∧ V.cell? (bd.add (j * 2)) = some (.slice B1 m1 e1) ∧ V.cell? ⟨(bd.add (j * 2)).block, (bd.add (j * 2)).off + 1, none⟩ = some (.slice B2 m2 e2) := fun V hV => ⟨hV.cell hca, hV.cell hda, hV.cell hcb, hV.cell hdb⟩
      go_wp2
      go_region_held3 (fun V => V.cell? (ad.add (j * 2)) = some (.slice A1 n1 c1) ∧ V.cell? ⟨(ad.add (j * 2)).block, (ad.add (j * 2)).off + 1, none⟩ = some (.slice A2 n2 c2) ∧ V.cell? (bd.add (j * 2)) = some (.slice B1 m1 e1) ∧ V.cell? ⟨(bd.add (j * 2)).block, (bd.add (j * 2)).off + 1, none⟩ = some (.slice B2 m2 e2)) (exact hS _ (by repeat (first | with_reducible assumption | with_reducible exact Ext.refl _ | with_reducible apply Ext.alloc | with_reducible apply Ext.drew | with_reducible apply Ext.drewN)))
        (first
          | (go_at_call 52; refine (eqDealing_same (s1.ext (w' := _) (Ext.trans (w := wr) (Ext.refl _) (by repeat (first | with_reducible assumption | with_reducible exact Ext.refl _ | with_reducible apply Ext.alloc | with_reducible apply Ext.drew | with_reducible apply Ext.drewN)))) (s2.ext (Ext.trans (w := wr) (Ext.refl _) (by repeat (first | with_reducible assumption | with_reducible exact Ext.refl _ | with_reducible apply Ext.alloc | with_reducible apply Ext.drew | with_reducible apply Ext.drewN)))) (s3.ext (Ext.trans (w := wr) (Ext.refl _) (by repeat (first | with_reducible assumption | with_reducible exact Ext.refl _ | with_reducible apply Ext.alloc | with_reducible apply Ext.drew | with_reducible apply Ext.drewN)))) (s4.ext (Ext.trans (w := wr) (Ext.refl _) (by repeat (first | with_reducible assumption | with_reducible exact Ext.refl _ | with_reducible apply Ext.alloc | with_reducible apply Ext.drew | with_reducible apply Ext.drewN))))).mono ?_; rintro e w2 ⟨rfl, hb2⟩; have hx2 := Ext.trans (w := wr) (by repeat (first | with_reducible assumption | with_reducible exact Ext.refl _ | with_reducible apply Ext.alloc | with_reducible apply Ext.drew | with_reducible apply Ext.drewN)) hb2)
          | fail)
      go_wp2
      go_roundw
      case rel => exact ⟨j + 1, by omega, by go_num, hE.trans hx2⟩
      case measure => simp [intOf]; omega
    · obtain rfl : j = ds.length := by omega
      go_wp2
      go_ret
      exact ⟨rfl, hE⟩
set_option maxHeartbeats 2000000 in
theorem markDealingS_any {A : Option Addr} {base n c : Nat} {P : List Nat} {ds : List (List Int × List Int)} {k : Int} {w : World} (ha : OwnD w base A n c P ds) (hk : 0 ≤ k) (hn : k + tot (flD ds) ≤ 1000000000) :
    Calls Try.prog 15 #[.slice A n c, .int .i64 k] w fun e w' => e = .returned (.int .i64 (k + tot (flD ds))) ∧ True ∧ Only P w w' := by
  have hl := ha.len
  have hmx := ha.le
  unfold maxLen at hmx
  subst hl
  go_enter Try.func15, Try.ntmps15
  go_wp2
  go_loopw [1, 5] (fun q i wr => ∃ (j : Nat) (ls : List (List Int)), j ≤ ds.length ∧ i = .int .i64 j ∧ q = .int .i64 (k + tot (flD (ds.take j))) ∧ OwnR wr base A ds.length c P ls ∧ Hid (∀ i, (hi : i < ls.length) → (hi' : i < (flD ds).length) → ls[i].length = (flD ds)[i].length) ∧ Only P w wr) (fun _ i _ => ds.length - (intOf i).toNat)
  case atStart => exact ⟨0, flD ds, Nat.zero_le _, rfl, by simp [tot, flD], ha, fun _ _ _ => rfl, Only.refl _ _⟩
  case round =>
    obtain ⟨j, ls, hj, rfl, rfl, hO, hL, hE⟩ := hrel
    by_cases hlt : j < ds.length
    · have HLL := Lib.hid hO.len
      have HFL := Lib.hid (flD_length ds)
      have hj0 : j * 2 < ls.length := by have := HLL.out; omega
      have hj1 : j * 2 + 1 < ls.length := by have := HLL.out; omega
      have hi0 : j * 2 < (flD ds).length := by have := HFL.out; omega
      have hi1 : j * 2 + 1 < (flD ds).length := by have := HFL.out; omega
      have hg1 := (flD_get hlt).1
      have hg2 := (flD_get hlt).2
      obtain ⟨g, B, m, d, rfl, hca, hra, hsub, hset⟩ := hO.row (j := j * 2) hj0
      obtain ⟨g', B', m', d', hgg, hcb, hrb, hsub', _⟩ := hO.row (j := j * 2 + 1) hj1
      obtain rfl : g = g' := by simpa using hgg
      have hlen : ds[j].1.length = m := by rw [← hra.len, hL.out _ hj0 hi0, hg1]
      have hlen' : ds[j].2.length = m' := by rw [← hrb.len, hL.out _ hj1 hi1, hg2]
      have ht := totD_succ hlt
      have ht2 := totD_at hlt
      rw [hlen, hlen'] at ht ht2
      have HL := Lib.hid hlen
      have HL' := Lib.hid hlen'
      have HT := Lib.hid ht
      have HG1 := Lib.hid hg1
      have HG2 := Lib.hid hg2
      clear hlen hlen' ht hg1 hg2 hgg
      go_wp2_with fail
      refine (markIntS_any hra (by omega) (by omega)).mono ?_
      rintro e w1 ⟨rfl, hm, hk2⟩
      have hO2 := hset w1 _ hm hk2
      obtain ⟨g', B2, m2, d2, hgg, hcb2, hrb2, hsub2, hset2⟩ := hO2.row (j := j * 2 + 1) (by rw [List.length_set]; exact hj1)
      obtain rfl : g = g' := by simpa using hgg
      have hm2 : m2 = m' := by
        have h9 := hrb2.len
        rw [List.getElem_set_ne (by omega)] at h9
        rw [← h9, hrb.len]
      subst hm2
      clear hset hgg
      go_wp2_with fail
      refine (markIntS_any hrb2 (by omega) (by omega)).mono ?_
      rintro e w3 ⟨rfl, hm3, hk3⟩
      have hO3 := hset2 w3 _ hm3 hk3
      clear hset2
      go_wp2
      go_roundw
      case rel =>
        refine ⟨j + 1, _, by omega, by go_num, by rw [HT.out]; push_cast; rw [Int.add_assoc, Int.add_assoc], hO3, fun i hi hi' => ?_, (hE.thenOnly (hk2.mono hsub)).thenOnly (hk3.mono hsub2)⟩
        simp only [List.length_set] at hi
        by_cases e1 : i = j * 2 + 1
        · subst e1; simp [iota_length, HG2.out, HL'.out]
        · by_cases e2 : i = j * 2
          · subst e2; rw [List.getElem_set_ne (by omega), List.getElem_set_self, iota_length, HG1.out, HL.out]
          · rw [List.getElem_set_ne (by omega), List.getElem_set_ne (by omega)]
            exact hL.out i hi hi'
      case measure => simp [intOf]; omega
    · obtain rfl : j = ds.length := by omega
      rw [List.take_length]
      go_wp2
      go_ret
      exact ⟨rfl, trivial, hE⟩
set_option maxHeartbeats 2000000 in
theorem szDealingS_any {A : Option Addr} {n c : Nat} {ds : List (List Int × List Int)} {k : Int} {w : World} (ha : RdD w A ds) (hl : ds.length = n) (hn : n ≤ 9223372036854775807) (hk : 0 ≤ k) (hk2 : k ≤ 1000000000) :
    Calls Try.prog 5 #[.slice A n c, .int .i64 k] w fun e w' => e = .returned (.int .i64 (if (n : Int) + tot (flD ds) ≤ k then k - n - tot (flD ds) else -1)) ∧ Ext w w' := by
  subst hl
  by_cases h0 : (ds.length : Int) ≤ k
  · go_enter Try.func5, Try.ntmps5
    go_wp2
    go_loopw [1, 5] (fun q i wr => ∃ j : Nat, j ≤ ds.length ∧ i = .int .i64 j ∧ q = .int .i64 (k - ds.length - tot (flD (ds.take j))) ∧ 0 ≤ k - ds.length - tot (flD (ds.take j)) ∧ Ext w wr) (fun _ i _ => ds.length - (intOf i).toNat)
    case atStart => exact ⟨0, Nat.zero_le _, rfl, by simp [tot, flD], by simp [tot, flD]; omega, Ext.refl _⟩
    case round =>
      obtain ⟨j, hj, rfl, rfl, hge, hE⟩ := hrel
      by_cases hlt : j < ds.length
      · obtain ⟨ad, rfl, B, m, d, D, m', d', hc, hd, hR, hS⟩ := (ha.ext hE).at_ hlt
        have ht := totD_at hlt
        have ht2 := totD_succ hlt
        have q1 := hR.le
        have q2 := hS.le
        unfold maxLen at q1 q2
        rw [hR.len, hS.len] at ht ht2
        have HT := Lib.hid ht2
        clear ht2
        by_cases hh : (m : Int) + m' ≤ k - ds.length - tot (flD (ds.take j))
        · go_wp2_with fail
          refine (szDealing_any hge (by omega) (by omega) (by omega)).mono ?_
          rw [if_pos hh]
          rintro e w1 ⟨rfl, hb⟩
          go_wp2
          go_roundw
          case rel => exact ⟨j + 1, by omega, by go_num, by rw [HT.out]; push_cast; congr 1; omega, by rw [HT.out]; push_cast; omega, hE.trans hb⟩
          case measure => simp [intOf]; omega
        · go_wp2_with fail
          refine (szDealing_any hge (by omega) (by omega) (by omega)).mono ?_
          rw [if_neg (by omega)]
          rintro e w1 ⟨rfl, hb⟩
          go_wp2
          go_ret
          exact ⟨ret_int (by first | rfl | rw [if_neg (by omega)]), hE.trans hb⟩
      · obtain rfl : j = ds.length := by omega
        rw [List.take_length] at hge
        rw [List.take_length]
        go_wp2
        go_ret
        exact ⟨ret_int (by first | rfl | rw [if_pos (by omega)]), hE⟩
  · go_enter Try.func5, Try.ntmps5
    go_wp2
    go_ret
    exact ⟨ret_int (by first | rfl | rw [if_neg (by omega)]), Ext.refl _⟩
theorem szDealingS_yes {A : Option Addr} {n c : Nat} {ds : List (List Int × List Int)} {k : Int} {w : World} (ha : RdD w A ds) (hl : ds.length = n) (h : (n : Int) + tot (flD ds) ≤ k) (hk2 : k ≤ 1000000000) :
    Calls Try.prog 5 #[.slice A n c, .int .i64 k] w fun e w' => e = .returned (.int .i64 (k - n - tot (flD ds))) ∧ Ext w w' := by
  have h9 := szDealingS_any (c := c) ha hl (by omega) (k := k) (by omega) hk2
  rw [if_pos h] at h9
  exact h9
theorem szDealingS_no {A : Option Addr} {n c : Nat} {ds : List (List Int × List Int)} {k : Int} {w : World} (ha : RdD w A ds) (hl : ds.length = n) (h : k < (n : Int) + tot (flD ds)) (hk : 0 ≤ k) (hk2 : k ≤ 1000000000) (hn : n ≤ maxLen) :
    Calls Try.prog 5 #[.slice A n c, .int .i64 k] w fun e w' => e = .returned (.int .i64 (-1)) ∧ Ext w w' := by
  unfold maxLen at hn
  have h9 := szDealingS_any (c := c) ha hl (by omega) (k := k) hk hk2
  rw [if_neg (by omega)] at h9
  exact h9
end Go.Proofs.Ytnhdohjlbchniaa
