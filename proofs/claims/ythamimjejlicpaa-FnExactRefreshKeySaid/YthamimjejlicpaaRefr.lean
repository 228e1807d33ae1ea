/- Contracts for RefreshKey: the program's and the reference's. (Printed by tools/gen_refr.py.) -/
import Derived.Test.YthamimjejlicpaaProg
import Derived.Test.YthamimjejlicpaaZero
namespace Go.Proofs.Ythamimjejlicpaa
open Go.RowKit

/-- The dealings that fit, and the places of the others. -/
def rfS (p q g : Int) (n m : Nat) (ds : List (List Int × List Int)) : Nat → List (List Int × List Int) × List Int
  | 0 => ([], [])
  | k + 1 => if ((ds.getD k ([], [])).1.length = n ∧ (ds.getD k ([], [])).2.length = m) ∧ zeroB p q g (ds.getD k ([], [])).1 (ds.getD k ([], [])).2 0 = true then ((rfS p q g n m ds k).1 ++ [ds.getD k ([], [])], (rfS p q g n m ds k).2) else ((rfS p q g n m ds k).1, (rfS p q g n m ds k).2 ++ [(k : Int)])
theorem rfS_len (p q g : Int) (n m : Nat) (ds : List (List Int × List Int)) : ∀ k, (rfS p q g n m ds k).1.length ≤ k ∧ (rfS p q g n m ds k).2.length ≤ k
  | 0 => ⟨Nat.le_refl _, Nat.le_refl _⟩
  | k + 1 => by
    have ih := rfS_len p q g n m ds k
    unfold rfS
    split <;> (simp; omega)
theorem rfS_in (p q g : Int) (n m : Nat) (ds : List (List Int × List Int)) : ∀ k, k ≤ ds.length → ∀ d ∈ (rfS p q g n m ds k).1, d ∈ ds ∧ d.1.length = n ∧ d.2.length = m
  | 0, _, d, hd => by cases hd
  | k + 1, hk, d, hd => by
    have ih := rfS_in p q g n m ds k (by omega) d
    have hlt : k < ds.length := by omega
    have hg : ds.getD k ([], []) = ds[k] := by simp [List.getD_eq_getElem?_getD, hlt]
    unfold rfS at hd
    rw [hg] at hd
    split at hd
    · rename_i hc
      rcases List.mem_append.1 hd with h1 | h1
      · exact ih h1
      · rw [List.mem_singleton.1 h1]
        exact ⟨List.getElem_mem hlt, hc.1⟩
    · exact ih hd
noncomputable def rfB (p q g : Int) (cs ss : List Int) (ds : List (List Int × List Int)) : Bool := keyG p q g cs ss && dlsB p q ds
noncomputable def rfV (p q g : Int) (cs ss : List Int) (ds : List (List Int × List Int)) : List Int × List Int := if rfB p q g cs ss ds then sumD p q (cs, ss) (rfS p q g cs.length ss.length ds ds.length).1 else ([], [])
noncomputable def rfO (p q g : Int) (cs ss : List Int) (ds : List (List Int × List Int)) : List Int := if rfB p q g cs ss ds then (rfS p q g cs.length ss.length ds ds.length).2 else []
theorem rf_rng {p q g : Int} {cs ss : List Int} {ds : List (List Int × List Int)} (h1 : keyG p q g cs ss = true) (h2 : dlsB p q ds = true) : ∀ x ∈ (cs, ss) :: (rfS p q g cs.length ss.length ds ds.length).1, RngD q cs.length ss.length x := by
  have hk := h1
  simp only [keyG, Bool.and_eq_true] at hk
  intro x hx
  rcases List.mem_cons.1 hx with rfl | hx
  · exact dl_rng hk.1.2 hk.2
  · obtain ⟨h3, e1, e2⟩ := rfS_in p q g cs.length ss.length ds ds.length (Nat.le_refl _) x hx
    have h4 := dl_rng hk.1.2 ((dls_in h2).2 x h3)
    rw [e1, e2] at h4
    exact h4
/-- 'append(s, x)' of one dealing that has just been laid into a new block; from the world ahead of that block. -/
theorem wpList_app1D {P : Program} {w0 : World} {ops : Array Oper} {rest : List Oper} {o : Oper} {a : Act} {Q : Exit → Act → World → Prop} {t e : TypeId} (S : DealSl P t e) {y z : Value}
    (hg : o.guard = none) (s x : Operand) (ho : o.op = .call { callee := .builtin .append, args := #[s, x], argTypes := #[t, t] })
    {base : Nat} {A : Option Addr} {n c c' : Nat} {xs : List Value} (hown : OwnW 2 w0 base e A n c xs) (hs : a.eval s = .slice A n c)
    (hx : a.eval x = .slice (some ⟨w0.heap.size, 0, none⟩) 1 c') (hy : y.oneCell' = true) (hz : z.oneCell' = true) (hn : n ≤ 10000000) (hb : base ≤ w0.heap.size)
    (hK : ∀ A' d w', OwnW 2 w' base e A' (n + 1) d (xs ++ [y, z]) → Only (fpI A) w0 w' → wpList P ops Q rest (a.put o.dst (.slice A' (n + 1) d)) w') :
    wpList P ops Q (o :: rest) a (w0.alloc (.cells #[y, z] e)) := by
  obtain ⟨i, h2, h3, h4, h5⟩ := S.hi
  have hO : OwnW 2 (w0.alloc (.cells #[y, z] e)) base e A n c xs := hown.ext ((Ext.refl w0).alloc _)
  refine wpList_append_own (P := P) _ hg s x t ho base e i (.agg #[.slice none 0 0, .slice none 0 0]) 2 48 S.ht h2 h3 h4 h5 rfl (by omega) (.slice A n c) n xs hs hO ⟨w0.heap.size, 0, none⟩ 1 c' [y, z] hx (by simp) ?_ (by simp [hy, hz]) (by unfold maxLen; omega) (by omega) (by simp; omega) ?_
  · intro j u hu
    have hB := (Blk.new w0 e #[y, z]).cells
    match j with
    | 0 => simp only [List.getElem?_cons_zero, Option.some.injEq] at hu; subst hu; exact hB 0
    | 1 => simp only [List.getElem?_cons_succ, List.getElem?_cons_zero, Option.some.injEq] at hu; subst hu; exact hB 1
    | j + 2 => simp at hu
  · intro v' w' h6 h7 h8
    have hl : Only (fpI A) w0 w' := by
      have h9 := only_of_grown h7
      refine ⟨h9.os, h9.tape, h9.output, ?_, fun k hk hn => ?_⟩
      · have := h9.size; simp at this; omega
      · exact (h9.block k (by simp; omega) hn).trans (Below.heap_alloc w0 _ k hk)
    rcases h6.2 with ⟨_, h0⟩ | ⟨g, cap, cur, rfl, rest⟩
    · omega
    · exact hK _ _ w' h6 hl
theorem ownW_nil_lit {w : World} {base e : Nat} (hb : base ≤ w.heap.size) : OwnW 2 (w.alloc (.cells #[] e)) base e (some ⟨w.heap.size, 0, none⟩) 0 0 [] := by
  have h := World.ownsRow_lit (base := base) (e := e) (size := 2) w #[] 0 hb (by unfold maxLen; omega) (by simp)
  simpa [OwnW] using h
set_option maxRecDepth 100000 in
set_option maxHeartbeats 8000000 in
theorem sRefreshKey_any (p q g : Int) (A : Option Addr) (n c : Nat) (B : Option Addr) (m d : Nat) (cs ss : List Int) (D : Option Addr) (r e : Nat) (ds : List (List Int × List Int)) (w : World) (ha : SlI w A n c cs) (hb : SlI w B m d ss) (hd : RdD w D ds) (hl : ds.length = r) (hr : r ≤ 1048576) :
    Calls Try.prog 51 #[.agg #[.int .i64 p, .int .i64 q, .int .i64 g], .agg #[.slice A n c, .slice B m d], .slice D r e] w fun en w' => ∃ A' n' c' B' m' d' C k e', en = .returned (.tuple #[.agg #[.slice A' n' c', .slice B' m' d'], .slice C k e', .bool (rfB p q g cs ss ds)]) ∧ OwnK w' w.heap.size A' n' c' B' m' d' (rfV p q g cs ss ds).1 (rfV p q g cs ss ds).2 ∧ OwnI w' w.heap.size 3 C k e' (rfO p q g cs ss ds) ∧ (n' ≤ 1000 ∧ m' ≤ 1000 ∧ k ≤ 1000) ∧ Apart (fpI A' ++ fpI B') (fpI C) ∧ Ext w w' := by
  have E := ((((Ext.refl w).alloc (.cells #[.int .i64 p, .int .i64 q, .int .i64 g] 25)).alloc (.cells #[.slice A n c, .slice B m d] 62)).alloc (.cells #[.slice none 0 0, .slice none 0 0] 62))
  have B0 := (((Blk.new w 25 #[.int .i64 p, .int .i64 q, .int .i64 g]).alloc (.cells #[.slice A n c, .slice B m d] 62)).alloc (.cells #[.slice none 0 0, .slice none 0 0] 62))
  have B1 := ((Blk.new (w.alloc (.cells #[.int .i64 p, .int .i64 q, .int .i64 g] 25)) 62 #[.slice A n c, .slice B m d]).alloc (.cells #[.slice none 0 0, .slice none 0 0] 62))
  have B2 := (Blk.new ((w.alloc (.cells #[.int .i64 p, .int .i64 q, .int .i64 g] 25)).alloc (.cells #[.slice A n c, .slice B m d] 62)) 62 #[.slice none 0 0, .slice none 0 0])
  simp only [World.size_alloc] at B1 B2
  cases h1 : keyG p q g cs ss
  · have H1 := Lib.hid h1
    have hv : rfB p q g cs ss ds = false := by simp only [rfB, h1, Bool.false_and]
    have hvv : rfV p q g cs ss ds = ([], []) := by unfold rfV; rw [hv]; rfl
    have hvo : rfO p q g cs ss ds = [] := by unfold rfO; rw [hv]; rfl
    have HV := Lib.hid hv
    have HVV := Lib.hid hvv
    have HVO := Lib.hid hvo
    clear hv hvv hvo
    clear h1
    go_enter Try.func51, Try.ntmps51
    have CC0 := B0.cells
    have CC1 := B1.cells
    have CC2 := B2.cells
    go_wp2_with fail
    refine (rGood_any p q g A n c cs B m d ss _ (ha.ext E) (hb.ext E)).mono ?_
    rintro en w9 ⟨hen, hb9⟩
    rw [H1.out] at hen; subst hen
    replace E := E.trans hb9
    replace B0 := B0.ext hb9
    replace B1 := B1.ext hb9
    replace B2 := B2.ext hb9
    clear hb9 CC0 CC1 CC2
    have BF := B2
    have FZ := BF.frozen
    have CN := BF.cells
    have CZ := ((BF.set_ 0 (.slice none 0 0)).set_ 1 (.slice none 0 0)).cells
    go_wp2
    refine bodyPost_ret (v := .tuple #[.agg #[.slice none 0 0, .slice none 0 0], .slice none 0 0, .bool false]) (by simp [results, Try.results51, CZ, go_sem]) rfl ⟨none, 0, 0, none, 0, 0, none, 0, 0, by rw [HV.out], by rw [HVV.out]; exact OwnK.nil _ _, by rw [HVO.out]; exact OwnI.nil _ _ _, by omega, fun b hb => by simp [fpI] at hb, E.only1 (by first | exact Nat.le_refl _ | omega | (simp; done) | (simp; omega)) (only_two _ _ _ _ _ _)⟩
  have H1 := Lib.hid h1
  have HG := Lib.hid (grpB_in (keyG_in h1).2.1).bd
  cases h2 : dlsB p q ds
  · have H2 := Lib.hid h2
    have hv : rfB p q g cs ss ds = false := by simp only [rfB, h1, h2, Bool.true_and]
    have hvv : rfV p q g cs ss ds = ([], []) := by unfold rfV; rw [hv]; rfl
    have hvo : rfO p q g cs ss ds = [] := by unfold rfO; rw [hv]; rfl
    have HV := Lib.hid hv
    have HVV := Lib.hid hvv
    have HVO := Lib.hid hvo
    clear hv hvv hvo
    clear h1 h2
    go_enter Try.func51, Try.ntmps51
    have CC0 := B0.cells
    have CC1 := B1.cells
    have CC2 := B2.cells
    go_wp2_with fail
    refine (rGood_any p q g A n c cs B m d ss _ (ha.ext E) (hb.ext E)).mono ?_
    rintro en w9 ⟨hen, hb9⟩
    rw [H1.out] at hen; subst hen
    replace E := E.trans hb9
    replace B0 := B0.ext hb9
    replace B1 := B1.ext hb9
    replace B2 := B2.ext hb9
    clear hb9 CC0 CC1 CC2
    have CC0 := B0.cells
    have CC1 := B1.cells
    have CC2 := B2.cells
    go_wp2_with fail
    refine (rList_any p q g D r e ds _ HG.out (hd.ext E) hl (by unfold maxLen; omega)).mono ?_
    rintro en w9 ⟨hen, hb9⟩
    rw [H2.out] at hen; subst hen
    replace E := E.trans hb9
    replace B0 := B0.ext hb9
    replace B1 := B1.ext hb9
    replace B2 := B2.ext hb9
    clear hb9 CC0 CC1 CC2
    have BF := B2
    have FZ := BF.frozen
    have CN := BF.cells
    have CZ := ((BF.set_ 0 (.slice none 0 0)).set_ 1 (.slice none 0 0)).cells
    go_wp2
    refine bodyPost_ret (v := .tuple #[.agg #[.slice none 0 0, .slice none 0 0], .slice none 0 0, .bool false]) (by simp [results, Try.results51, CZ, go_sem]) rfl ⟨none, 0, 0, none, 0, 0, none, 0, 0, by rw [HV.out], by rw [HVV.out]; exact OwnK.nil _ _, by rw [HVO.out]; exact OwnI.nil _ _ _, by omega, fun b hb => by simp [fpI] at hb, E.only1 (by first | exact Nat.le_refl _ | omega | (simp; done) | (simp; omega)) (only_two _ _ _ _ _ _)⟩
  have H2 := Lib.hid h2
  have hrg := rf_rng h1 h2
  have hv : rfB p q g cs ss ds = true := by simp only [rfB, h1, h2, Bool.and_self]
  have hvv : rfV p q g cs ss ds = sumD p q (cs, ss) (rfS p q g cs.length ss.length ds ds.length).1 := by unfold rfV; rw [hv]; rfl
  have hvo : rfO p q g cs ss ds = (rfS p q g cs.length ss.length ds ds.length).2 := by unfold rfO; rw [hv]; rfl
  have hlc := ha.len
  have hls := hb.len
  rw [hlc, hls] at hrg hvv hvo
  obtain ⟨hq7, hgg, h3c, h4c, h5, h6⟩ := keyG_in h1
  rw [hlc] at h3c h5
  rw [hls] at h5
  have HGG := Lib.hid hgg
  have hG := grpB_in hgg
  have hq2 := hG.q2
  have hp9 := hG.p9
  have hqp := hG.qp
  have HDV := Lib.hid (dls_in h2).2
  have hds := (dls_in h2).1
  have HLD := Lib.hid hl
  have HV := Lib.hid hv
  have HVV := Lib.hid hvv
  have HVO := Lib.hid hvo
  have HR := Lib.hid hrg
  clear h1 h2 hlc hls hv hvv hvo hrg hgg h4c h6
  go_enter Try.func51, Try.ntmps51
  have CC0 := B0.cells
  have CC1 := B1.cells
  have CC2 := B2.cells
  go_wp2_with fail
  refine (rGood_any p q g A n c cs B m d ss _ (ha.ext E) (hb.ext E)).mono ?_
  rintro en w9 ⟨hen, hb9⟩
  rw [H1.out] at hen; subst hen
  replace E := E.trans hb9
  replace B0 := B0.ext hb9
  replace B1 := B1.ext hb9
  replace B2 := B2.ext hb9
  clear hb9 CC0 CC1 CC2
  have CC0 := B0.cells
  have CC1 := B1.cells
  have CC2 := B2.cells
  go_wp2_with fail
  refine (rList_any p q g D r e ds _ HG.out (hd.ext E) hl (by unfold maxLen; omega)).mono ?_
  rintro en w9 ⟨hen, hb9⟩
  rw [H2.out] at hen; subst hen
  replace E := E.trans hb9
  replace B0 := B0.ext hb9
  replace B1 := B1.ext hb9
  replace B2 := B2.ext hb9
  clear hb9 CC0 CC1 CC2
  have EW := E
  go_wp2
  go_loopw [9, 10, 26] (fun us bs k wr => ∃ (j : Nat) (U : Option Addr) (u uc : Nat) (X : Option Addr) (x xc : Nat) (rs : List (Option Addr × Nat × Nat)), j ≤ ds.length ∧ k = .int .i64 j ∧ us = .slice U u uc ∧ bs = .slice X x xc ∧ u ≤ j ∧ x ≤ j ∧ OwnW 2 wr w9.heap.size 113 U u uc (rs.map rowV) ∧ RowsRd w9 rs (flD (rfS p q g n m ds j).1) ∧ OwnI wr w9.heap.size 3 X x xc (rfS p q g n m ds j).2 ∧ Ext w9 wr) (fun _ _ k _ => ds.length - (intOf k).toNat)
  case atStart => exact ⟨0, none, 0, 0, none, 0, 0, [], Nat.zero_le _, rfl, rfl, rfl, Nat.le_refl _, Nat.le_refl _, OwnW.nil _ _ _ _, RowsRd.nil _, OwnI.nil _ _ _, Ext.refl _⟩
  case round =>
    obtain ⟨j, U, u, uc, X, x, xc, rs, hj, rfl, rfl, rfl, huj, hxj, hU, hR, hX, E2⟩ := hrel
    by_cases hlt : j < ds.length
    · obtain ⟨ad, hDA, A1, n1, c1, A2, m1, d1, hc0, hdd0, s10, s20⟩ := (hd.ext E).at_ hlt
      subst hDA
      have hc := E2.cell hc0
      have hdd := E2.cell hdd0
      have s1 := s10.ext E2
      have s2 := s20.ext E2
      have hjr : j < r := by have := HLD.out; omega
      have hdf := dlF HGG.out (HDV.out _ (List.getElem_mem hlt))
      have hst : rfS p q g n m ds (j + 1) = if (ds[j].1.length = n ∧ ds[j].2.length = m) ∧ zeroB p q g ds[j].1 ds[j].2 0 = true then ((rfS p q g n m ds j).1 ++ [ds[j]], (rfS p q g n m ds j).2) else ((rfS p q g n m ds j).1, (rfS p q g n m ds j).2 ++ [(j : Int)]) := by
        have e1 : ds.getD j ([], []) = ds[j] := by simp [List.getD_eq_getElem?_getD, hlt]
        rw [rfS, e1]
      have hl1 := s1.len
      have hl2 := s2.len
      generalize ds[j] = dd at *
      have E3 := E2.alloc (.cells #[.slice A1 n1 c1, .slice A2 m1 d1] 113)
      have hx := (Ext.refl wr).alloc (.cells #[.slice A1 n1 c1, .slice A2 m1 d1] 113)
      have B3 := Blk.new wr 113 #[.slice A1 n1 c1, .slice A2 m1 d1]
      have CC1 := (B1.ext E3).cells
      have CC3 := B3.cells
      by_cases hsh : n1 = n ∧ m1 = m
      · obtain ⟨hs1, hs2⟩ := hsh
        have HE : Hid ((decide (n = n1) && decide (m = m1)) = true) := by show _ = true; simp [hs1, hs2]
        cases hz : zeroB p q g dd.1 dd.2 0
        · have HZ := Lib.hid hz
          have HNX : Hid (rfS p q g n m ds (j + 1) = ((rfS p q g n m ds j).1, (rfS p q g n m ds j).2 ++ [(j : Int)])) := by show _ = _; rw [hst, if_neg (by rw [hz]; simp)]
          clear hz hst hs1 hs2 hl1 hl2
          go_wp2_with fail
          refine (rAlike_any A n c B m d A1 n1 c1 A2 m1 d1 _).mono ?_
          rintro en w4 ⟨hen, hb4⟩
          rw [HE.out] at hen; subst hen
          have CC0 := (B0.ext (E3.trans hb4)).cells
          have CC4 := (B3.ext hb4).cells
          go_wp2_with fail
          refine (rZero_any p q g A1 n1 c1 _ A2 m1 d1 _ 0 _ HGG.out (s1.ext (hx.trans hb4)) (s2.ext (hx.trans hb4)) hdf (by omega)).mono ?_
          rintro en w5 ⟨hen, hb5⟩
          rw [HZ.out] at hen; subst hen
          have E5 := E3.trans (hb4.trans hb5)
          have hX5 := hX.ext (hx.trans (hb4.trans hb5))
          have hU5 := hU.ext (hx.trans (hb4.trans hb5))
          have hsz5 := E5.size
          go_wp2_with (at_builtin; refine wpList_app1F intSl rfl _ _ rfl hX5 rfl rfl rfl (by omega) hsz5 ?_; intro X2 x2 w6 hX2 hon1 hli1)
          have E6 := E5.only hon1 hX5.high
          have hU6 := hU5.only hon1 (fun b hb hb' => apart_typesW hU5 hX5.w (by decide) b hb hb')
          go_roundw
          case rel => exact ⟨j + 1, U, u, uc, X2, x + 1, x2, rs, by omega, by go_num, rfl, rfl, by omega, by omega, hU6, by rw [HNX.out]; exact hR, by rw [HNX.out]; exact hX2, E6⟩
          case measure => simp [intOf]; omega
        · have HZ := Lib.hid hz
          have HNX : Hid (rfS p q g n m ds (j + 1) = ((rfS p q g n m ds j).1 ++ [dd], (rfS p q g n m ds j).2)) := by show _ = _; rw [hst, if_pos ⟨⟨hl1.trans hs1, hl2.trans hs2⟩, hz⟩]
          clear hz hst hs1 hs2 hl1 hl2
          go_wp2_with fail
          refine (rAlike_any A n c B m d A1 n1 c1 A2 m1 d1 _).mono ?_
          rintro en w4 ⟨hen, hb4⟩
          rw [HE.out] at hen; subst hen
          have CC0 := (B0.ext (E3.trans hb4)).cells
          have CC4 := (B3.ext hb4).cells
          go_wp2_with fail
          refine (rZero_any p q g A1 n1 c1 _ A2 m1 d1 _ 0 _ HGG.out (s1.ext (hx.trans hb4)) (s2.ext (hx.trans hb4)) hdf (by omega)).mono ?_
          rintro en w5 ⟨hen, hb5⟩
          rw [HZ.out] at hen; subst hen
          have E5 := E3.trans (hb4.trans hb5)
          have hX5 := hX.ext (hx.trans (hb4.trans hb5))
          have hU5 := hU.ext (hx.trans (hb4.trans hb5))
          have hsz5 := E5.size
          have CC5 := (B3.ext (hb4.trans hb5)).cells
          go_wp2_with (at_builtin; refine wpList_app1D dealSl rfl _ _ rfl hU5 rfl rfl rfl rfl (by omega) hsz5 ?_; intro U2 u2 w6 hU2 hon1)
          have E6 := E5.only hon1 hU5.high
          have hX6 := hX5.only hon1 (fun b hb hb' => apart_typesW hU5 hX5.w (by decide) b hb' hb)
          have hR6 : RowsRd w9 (rs ++ [(A1, n1, c1), (A2, m1, d1)]) (flD ((rfS p q g n m ds j).1 ++ [dd])) := by rw [flD_append]; exact RowsRd.append hR (RowsRd.two s10 s20)
          go_roundw
          case rel => exact ⟨j + 1, U2, u + 1, u2, X, x, xc, rs ++ [(A1, n1, c1), (A2, m1, d1)], by omega, by go_num, rfl, rfl, by omega, by omega, by simpa [rowV] using hU2, by rw [HNX.out]; exact hR6, by rw [HNX.out]; exact hX6, E6⟩
          case measure => simp [intOf]; omega
      · have HE : Hid ((decide (n = n1) && decide (m = m1)) = false) := by
          show _ = false
          rw [Bool.and_eq_false_iff, decide_eq_false_iff_not, decide_eq_false_iff_not]
          omega
        have HNX : Hid (rfS p q g n m ds (j + 1) = ((rfS p q g n m ds j).1, (rfS p q g n m ds j).2 ++ [(j : Int)])) := by show _ = _; rw [hst, if_neg (by omega)]
        clear hst hsh hl1 hl2
        go_wp2_with fail
        refine (rAlike_any A n c B m d A1 n1 c1 A2 m1 d1 _).mono ?_
        rintro en w4 ⟨hen, hb4⟩
        rw [HE.out] at hen; subst hen
        have E5 := E3.trans hb4
        have hX5 := hX.ext (hx.trans hb4)
        have hU5 := hU.ext (hx.trans hb4)
        have hsz5 := E5.size
        go_wp2_with (at_builtin; refine wpList_app1F intSl rfl _ _ rfl hX5 rfl rfl rfl (by omega) hsz5 ?_; intro X2 x2 w6 hX2 hon1 hli1)
        have E6 := E5.only hon1 hX5.high
        have hU6 := hU5.only hon1 (fun b hb hb' => apart_typesW hU5 hX5.w (by decide) b hb hb')
        go_roundw
        case rel => exact ⟨j + 1, U, u, uc, X2, x + 1, x2, rs, by omega, by go_num, rfl, rfl, by omega, by omega, hU6, by rw [HNX.out]; exact hR, by rw [HNX.out]; exact hX2, E6⟩
        case measure => simp [intOf]; omega
    · obtain rfl : j = ds.length := by omega
      have hge : ¬ (ds.length < r) := by have := HLD.out; omega
      replace E := E.trans E2
      replace B0 := B0.ext E2
      replace B1 := B1.ext E2
      replace B2 := B2.ext E2
      have hul : (rfS p q g n m ds ds.length).1.length = u := by
        have h9 := hU.len
        have h8 := hR.1
        rw [List.length_map, h8, flD_length] at h9
        omega
      have HUL := Lib.hid hul
      have hXh := hX.high
      have hXl := hX.low
      clear hul
      have CC0 := B0.cells
      have CC1 := B1.cells
      go_wp2_with fail
      refine (rSum_any p q g A n c cs B m d ss U u uc (rfS p q g n m ds ds.length).1 _ hG.bd (by omega) (by omega) (ha.ext E) (hb.ext E) (RowsRd.rd (hR.ext E2) hU.rd) HUL.out (by omega) (by omega) (by omega) HR.out).mono ?_
      rintro en w8 ⟨A5, c5, A6, c6, rfl, o5, hb8⟩
      have BF := B2.ext hb8
      have FZ := BF.frozen
      have CN := BF.cells
      have CZ := ((BF.set_ 0 (.slice A5 n c5)).set_ 1 (.slice A6 m c6)).cells
      have hwz := E.size
      have hwz9 := E2.size
      have hw90 := EW.size
      have hX8 := hX.ext hb8
      clear CC0 CC1
      go_wp2
      refine bodyPost_ret (v := .tuple #[.agg #[.slice A5 n c5, .slice A6 m c6], .slice X x xc, .bool true]) (by simp [results, Try.results51, CZ, go_sem]) rfl ⟨A5, n, c5, A6, m, c6, X, x, xc, by rw [HV.out], by rw [HVV.out]; exact (o5.keepBlk BF (by decide) (only_two _ _ _ _ _ _)).more (by first | exact Nat.le_refl _ | omega | (simp; done) | (simp; omega)), by rw [HVO.out]; exact (hX8.keepBlk BF (by decide) (only_two _ _ _ _ _ _)).more (by first | exact Nat.le_refl _ | omega | (simp; done) | (simp; omega)), by omega, Apart.of_high hXl o5.high, (E.trans hb8).only1 (by first | exact Nat.le_refl _ | omega | (simp; done) | (simp; omega)) (only_two _ _ _ _ _ _)⟩
set_option maxRecDepth 100000 in
set_option maxHeartbeats 8000000 in
theorem iRefreshKey_any (p q g : Int) (A : Option Addr) (n c : Nat) (B : Option Addr) (m d : Nat) (cs ss : List Int) (D : Option Addr) (r e : Nat) (ds : List (List Int × List Int)) (w : World) (ha : SlI w A n c cs) (hb : SlI w B m d ss) (hd : RdD w D ds) (hl : ds.length = r) (hr : r ≤ 1048576) :
    Calls Try.prog 52 #[.agg #[.int .i64 p, .int .i64 q, .int .i64 g], .agg #[.slice A n c, .slice B m d], .slice D r e] w fun en w' => ∃ A' n' c' B' m' d' C k e', en = .returned (.tuple #[.agg #[.slice A' n' c', .slice B' m' d'], .slice C k e', .bool (rfB p q g cs ss ds)]) ∧ OwnK w' w.heap.size A' n' c' B' m' d' (rfV p q g cs ss ds).1 (rfV p q g cs ss ds).2 ∧ OwnI w' w.heap.size 3 C k e' (rfO p q g cs ss ds) ∧ (n' ≤ 1000 ∧ m' ≤ 1000 ∧ k ≤ 1000) ∧ Apart (fpI A' ++ fpI B') (fpI C) ∧ Ext w w' := by
  have E := ((((Ext.refl w).alloc (.cells #[.int .i64 p, .int .i64 q, .int .i64 g] 25)).alloc (.cells #[.slice A n c, .slice B m d] 62)).alloc (.cells #[.slice none 0 0, .slice none 0 0] 62))
  have B0 := (((Blk.new w 25 #[.int .i64 p, .int .i64 q, .int .i64 g]).alloc (.cells #[.slice A n c, .slice B m d] 62)).alloc (.cells #[.slice none 0 0, .slice none 0 0] 62))
  have B1 := ((Blk.new (w.alloc (.cells #[.int .i64 p, .int .i64 q, .int .i64 g] 25)) 62 #[.slice A n c, .slice B m d]).alloc (.cells #[.slice none 0 0, .slice none 0 0] 62))
  have B2 := (Blk.new ((w.alloc (.cells #[.int .i64 p, .int .i64 q, .int .i64 g] 25)).alloc (.cells #[.slice A n c, .slice B m d] 62)) 62 #[.slice none 0 0, .slice none 0 0])
  simp only [World.size_alloc] at B1 B2
  cases h1 : keyG p q g cs ss
  · have H1 := Lib.hid h1
    have hv : rfB p q g cs ss ds = false := by simp only [rfB, h1, Bool.false_and]
    have hvv : rfV p q g cs ss ds = ([], []) := by unfold rfV; rw [hv]; rfl
    have hvo : rfO p q g cs ss ds = [] := by unfold rfO; rw [hv]; rfl
    have HV := Lib.hid hv
    have HVV := Lib.hid hvv
    have HVO := Lib.hid hvo
    clear hv hvv hvo
    clear h1
    go_enter Try.func52, Try.ntmps52
    have CC0 := B0.cells
    have CC1 := B1.cells
    have CC2 := B2.cells
    go_wp2_with fail
    refine (hasKey_any p q g A n c cs B m d ss _ (ha.ext E) (hb.ext E)).mono ?_
    rintro en w9 ⟨hen, hb9⟩
    rw [H1.out] at hen; subst hen
    replace E := E.trans hb9
    replace B0 := B0.ext hb9
    replace B1 := B1.ext hb9
    replace B2 := B2.ext hb9
    clear hb9 CC0 CC1 CC2
    have BF := B2
    have FZ := BF.frozen
    have CN := BF.cells
    have CZ := ((BF.set_ 0 (.slice none 0 0)).set_ 1 (.slice none 0 0)).cells
    go_wp2
    refine bodyPost_ret (v := .tuple #[.agg #[.slice none 0 0, .slice none 0 0], .slice none 0 0, .bool false]) (by simp [results, Try.results52, CZ, go_sem]) rfl ⟨none, 0, 0, none, 0, 0, none, 0, 0, by rw [HV.out], by rw [HVV.out]; exact OwnK.nil _ _, by rw [HVO.out]; exact OwnI.nil _ _ _, by omega, fun b hb => by simp [fpI] at hb, E.only1 (by first | exact Nat.le_refl _ | omega | (simp; done) | (simp; omega)) (only_two _ _ _ _ _ _)⟩
  have H1 := Lib.hid h1
  have HG := Lib.hid (grpB_in (keyG_in h1).2.1).bd
  cases h2 : dlsB p q ds
  · have H2 := Lib.hid h2
    have hv : rfB p q g cs ss ds = false := by simp only [rfB, h1, h2, Bool.true_and]
    have hvv : rfV p q g cs ss ds = ([], []) := by unfold rfV; rw [hv]; rfl
    have hvo : rfO p q g cs ss ds = [] := by unfold rfO; rw [hv]; rfl
    have HV := Lib.hid hv
    have HVV := Lib.hid hvv
    have HVO := Lib.hid hvo
    clear hv hvv hvo
    clear h1 h2
    go_enter Try.func52, Try.ntmps52
    have CC0 := B0.cells
    have CC1 := B1.cells
    have CC2 := B2.cells
    go_wp2_with fail
    refine (hasKey_any p q g A n c cs B m d ss _ (ha.ext E) (hb.ext E)).mono ?_
    rintro en w9 ⟨hen, hb9⟩
    rw [H1.out] at hen; subst hen
    replace E := E.trans hb9
    replace B0 := B0.ext hb9
    replace B1 := B1.ext hb9
    replace B2 := B2.ext hb9
    clear hb9 CC0 CC1 CC2
    have CC0 := B0.cells
    have CC1 := B1.cells
    have CC2 := B2.cells
    go_wp2_with fail
    refine (hasDealings_any p q g D r e ds _ HG.out (hd.ext E) hl (by unfold maxLen; omega)).mono ?_
    rintro en w9 ⟨hen, hb9⟩
    rw [H2.out] at hen; subst hen
    replace E := E.trans hb9
    replace B0 := B0.ext hb9
    replace B1 := B1.ext hb9
    replace B2 := B2.ext hb9
    clear hb9 CC0 CC1 CC2
    have BF := B2
    have FZ := BF.frozen
    have CN := BF.cells
    have CZ := ((BF.set_ 0 (.slice none 0 0)).set_ 1 (.slice none 0 0)).cells
    go_wp2
    refine bodyPost_ret (v := .tuple #[.agg #[.slice none 0 0, .slice none 0 0], .slice none 0 0, .bool false]) (by simp [results, Try.results52, CZ, go_sem]) rfl ⟨none, 0, 0, none, 0, 0, none, 0, 0, by rw [HV.out], by rw [HVV.out]; exact OwnK.nil _ _, by rw [HVO.out]; exact OwnI.nil _ _ _, by omega, fun b hb => by simp [fpI] at hb, E.only1 (by first | exact Nat.le_refl _ | omega | (simp; done) | (simp; omega)) (only_two _ _ _ _ _ _)⟩
  have H2 := Lib.hid h2
  have hrg := rf_rng h1 h2
  have hv : rfB p q g cs ss ds = true := by simp only [rfB, h1, h2, Bool.and_self]
  have hvv : rfV p q g cs ss ds = sumD p q (cs, ss) (rfS p q g cs.length ss.length ds ds.length).1 := by unfold rfV; rw [hv]; rfl
  have hvo : rfO p q g cs ss ds = (rfS p q g cs.length ss.length ds ds.length).2 := by unfold rfO; rw [hv]; rfl
  have hlc := ha.len
  have hls := hb.len
  rw [hlc, hls] at hrg hvv hvo
  obtain ⟨hq7, hgg, h3c, h4c, h5, h6⟩ := keyG_in h1
  rw [hlc] at h3c h5
  rw [hls] at h5
  have HGG := Lib.hid hgg
  have hG := grpB_in hgg
  have hq2 := hG.q2
  have hp9 := hG.p9
  have hqp := hG.qp
  have HDV := Lib.hid (dls_in h2).2
  have hds := (dls_in h2).1
  have HLD := Lib.hid hl
  have HV := Lib.hid hv
  have HVV := Lib.hid hvv
  have HVO := Lib.hid hvo
  have HR := Lib.hid hrg
  clear h1 h2 hlc hls hv hvv hvo hrg hgg h4c h6
  go_enter Try.func52, Try.ntmps52
  have CC0 := B0.cells
  have CC1 := B1.cells
  have CC2 := B2.cells
  go_wp2_with fail
  refine (hasKey_any p q g A n c cs B m d ss _ (ha.ext E) (hb.ext E)).mono ?_
  rintro en w9 ⟨hen, hb9⟩
  rw [H1.out] at hen; subst hen
  replace E := E.trans hb9
  replace B0 := B0.ext hb9
  replace B1 := B1.ext hb9
  replace B2 := B2.ext hb9
  clear hb9 CC0 CC1 CC2
  have CC0 := B0.cells
  have CC1 := B1.cells
  have CC2 := B2.cells
  go_wp2_with fail
  refine (hasDealings_any p q g D r e ds _ HG.out (hd.ext E) hl (by unfold maxLen; omega)).mono ?_
  rintro en w9 ⟨hen, hb9⟩
  rw [H2.out] at hen; subst hen
  replace E := E.trans hb9
  replace B0 := B0.ext hb9
  replace B1 := B1.ext hb9
  replace B2 := B2.ext hb9
  clear hb9 CC0 CC1 CC2
  have E00 := ((Ext.refl w9).alloc (.cells #[] 113)).alloc (.cells #[] 3)
  have hU0 : OwnW 2 ((w9.alloc (.cells #[] 113)).alloc (.cells #[] 3)) w9.heap.size 113 (some ⟨w9.heap.size, 0, none⟩) 0 0 [] := (ownW_nil_lit (Nat.le_refl _)).ext ((Ext.refl _).alloc _)
  have hX0 : OwnI ((w9.alloc (.cells #[] 113)).alloc (.cells #[] 3)) w9.heap.size 3 (some ⟨w9.heap.size + 1, 0, none⟩) 0 0 [] := ownI_lit (n := 0) (w := w9.alloc (.cells #[] 113)) [] rfl (by simp) (by simp) (Nat.zero_le _)
  have EW := E
  go_wp2
  go_loopw [9, 10, 28] (fun us bs k wr => ∃ (j : Nat) (U : Option Addr) (u uc : Nat) (X : Option Addr) (x xc : Nat) (rs : List (Option Addr × Nat × Nat)), j ≤ ds.length ∧ k = .int .i64 j ∧ us = .slice U u uc ∧ bs = .slice X x xc ∧ u ≤ j ∧ x ≤ j ∧ OwnW 2 wr w9.heap.size 113 U u uc (rs.map rowV) ∧ RowsRd w9 rs (flD (rfS p q g n m ds j).1) ∧ OwnI wr w9.heap.size 3 X x xc (rfS p q g n m ds j).2 ∧ Ext w9 wr) (fun _ _ k _ => ds.length - (intOf k).toNat)
  case atStart => exact ⟨0, _, 0, _, _, 0, _, [], Nat.zero_le _, rfl, rfl, rfl, Nat.le_refl _, Nat.le_refl _, hU0, RowsRd.nil _, hX0, E00⟩
  case round =>
    obtain ⟨j, U, u, uc, X, x, xc, rs, hj, rfl, rfl, rfl, huj, hxj, hU, hR, hX, E2⟩ := hrel
    by_cases hlt : j < ds.length
    · obtain ⟨ad, hDA, A1, n1, c1, A2, m1, d1, hc0, hdd0, s10, s20⟩ := (hd.ext E).at_ hlt
      subst hDA
      have hc := E2.cell hc0
      have hdd := E2.cell hdd0
      have s1 := s10.ext E2
      have s2 := s20.ext E2
      have hjr : j < r := by have := HLD.out; omega
      have hdf := dlF HGG.out (HDV.out _ (List.getElem_mem hlt))
      have hst : rfS p q g n m ds (j + 1) = if (ds[j].1.length = n ∧ ds[j].2.length = m) ∧ zeroB p q g ds[j].1 ds[j].2 0 = true then ((rfS p q g n m ds j).1 ++ [ds[j]], (rfS p q g n m ds j).2) else ((rfS p q g n m ds j).1, (rfS p q g n m ds j).2 ++ [(j : Int)]) := by
        have e1 : ds.getD j ([], []) = ds[j] := by simp [List.getD_eq_getElem?_getD, hlt]
        rw [rfS, e1]
      have hl1 := s1.len
      have hl2 := s2.len
      generalize ds[j] = dd at *
      have E3 := E2.alloc (.cells #[.slice A1 n1 c1, .slice A2 m1 d1] 113)
      have hx := (Ext.refl wr).alloc (.cells #[.slice A1 n1 c1, .slice A2 m1 d1] 113)
      have B3 := Blk.new wr 113 #[.slice A1 n1 c1, .slice A2 m1 d1]
      have CC1 := (B1.ext E3).cells
      have CC3 := B3.cells
      by_cases hsh : n1 = n ∧ m1 = m
      · obtain ⟨hs1, hs2⟩ := hsh
        have HE : Hid ((decide (n1 = n) && decide (m1 = m)) = true) := by show _ = true; simp [hs1, hs2]
        cases hz : zeroB p q g dd.1 dd.2 0
        · have HZ := Lib.hid hz
          have HNX : Hid (rfS p q g n m ds (j + 1) = ((rfS p q g n m ds j).1, (rfS p q g n m ds j).2 ++ [(j : Int)])) := by show _ = _; rw [hst, if_neg (by rw [hz]; simp)]
          clear hz hst hs1 hs2 hl1 hl2
          go_wp2_with fail
          refine (sameShape_any A1 n1 c1 A2 m1 d1 A n c B m d _).mono ?_
          rintro en w4 ⟨hen, hb4⟩
          rw [HE.out] at hen; subst hen
          have CC0 := (B0.ext (E3.trans hb4)).cells
          have CC4 := (B3.ext hb4).cells
          go_wp2_with fail
          refine (isZero_any p q g A1 n1 c1 _ A2 m1 d1 _ 0 _ HGG.out (s1.ext (hx.trans hb4)) (s2.ext (hx.trans hb4)) hdf (by omega)).mono ?_
          rintro en w5 ⟨hen, hb5⟩
          rw [HZ.out] at hen; subst hen
          have E5 := E3.trans (hb4.trans hb5)
          have hX5 := hX.ext (hx.trans (hb4.trans hb5))
          have hU5 := hU.ext (hx.trans (hb4.trans hb5))
          have hsz5 := E5.size
          go_wp2_with (at_builtin; refine wpList_app1F intSl rfl _ _ rfl hX5 rfl rfl rfl (by omega) hsz5 ?_; intro X2 x2 w6 hX2 hon1 hli1)
          have E6 := E5.only hon1 hX5.high
          have hU6 := hU5.only hon1 (fun b hb hb' => apart_typesW hU5 hX5.w (by decide) b hb hb')
          go_roundw
          case rel => exact ⟨j + 1, U, u, uc, X2, x + 1, x2, rs, by omega, by go_num, rfl, rfl, by omega, by omega, hU6, by rw [HNX.out]; exact hR, by rw [HNX.out]; exact hX2, E6⟩
          case measure => simp [intOf]; omega
        · have HZ := Lib.hid hz
          have HNX : Hid (rfS p q g n m ds (j + 1) = ((rfS p q g n m ds j).1 ++ [dd], (rfS p q g n m ds j).2)) := by show _ = _; rw [hst, if_pos ⟨⟨hl1.trans hs1, hl2.trans hs2⟩, hz⟩]
          clear hz hst hs1 hs2 hl1 hl2
          go_wp2_with fail
          refine (sameShape_any A1 n1 c1 A2 m1 d1 A n c B m d _).mono ?_
          rintro en w4 ⟨hen, hb4⟩
          rw [HE.out] at hen; subst hen
          have CC0 := (B0.ext (E3.trans hb4)).cells
          have CC4 := (B3.ext hb4).cells
          go_wp2_with fail
          refine (isZero_any p q g A1 n1 c1 _ A2 m1 d1 _ 0 _ HGG.out (s1.ext (hx.trans hb4)) (s2.ext (hx.trans hb4)) hdf (by omega)).mono ?_
          rintro en w5 ⟨hen, hb5⟩
          rw [HZ.out] at hen; subst hen
          have E5 := E3.trans (hb4.trans hb5)
          have hX5 := hX.ext (hx.trans (hb4.trans hb5))
          have hU5 := hU.ext (hx.trans (hb4.trans hb5))
          have hsz5 := E5.size
          have CC5 := (B3.ext (hb4.trans hb5)).cells
          go_wp2_with (at_builtin; refine wpList_app1D dealSl rfl _ _ rfl hU5 rfl rfl rfl rfl (by omega) hsz5 ?_; intro U2 u2 w6 hU2 hon1)
          have E6 := E5.only hon1 hU5.high
          have hX6 := hX5.only hon1 (fun b hb hb' => apart_typesW hU5 hX5.w (by decide) b hb' hb)
          have hR6 : RowsRd w9 (rs ++ [(A1, n1, c1), (A2, m1, d1)]) (flD ((rfS p q g n m ds j).1 ++ [dd])) := by rw [flD_append]; exact RowsRd.append hR (RowsRd.two s10 s20)
          go_roundw
          case rel => exact ⟨j + 1, U2, u + 1, u2, X, x, xc, rs ++ [(A1, n1, c1), (A2, m1, d1)], by omega, by go_num, rfl, rfl, by omega, by omega, by simpa [rowV] using hU2, by rw [HNX.out]; exact hR6, by rw [HNX.out]; exact hX6, E6⟩
          case measure => simp [intOf]; omega
      · have HE : Hid ((decide (n1 = n) && decide (m1 = m)) = false) := by
          show _ = false
          rw [Bool.and_eq_false_iff, decide_eq_false_iff_not, decide_eq_false_iff_not]
          omega
        have HNX : Hid (rfS p q g n m ds (j + 1) = ((rfS p q g n m ds j).1, (rfS p q g n m ds j).2 ++ [(j : Int)])) := by show _ = _; rw [hst, if_neg (by omega)]
        clear hst hsh hl1 hl2
        go_wp2_with fail
        refine (sameShape_any A1 n1 c1 A2 m1 d1 A n c B m d _).mono ?_
        rintro en w4 ⟨hen, hb4⟩
        rw [HE.out] at hen; subst hen
        have E5 := E3.trans hb4
        have hX5 := hX.ext (hx.trans hb4)
        have hU5 := hU.ext (hx.trans hb4)
        have hsz5 := E5.size
        go_wp2_with (at_builtin; refine wpList_app1F intSl rfl _ _ rfl hX5 rfl rfl rfl (by omega) hsz5 ?_; intro X2 x2 w6 hX2 hon1 hli1)
        have E6 := E5.only hon1 hX5.high
        have hU6 := hU5.only hon1 (fun b hb hb' => apart_typesW hU5 hX5.w (by decide) b hb hb')
        go_roundw
        case rel => exact ⟨j + 1, U, u, uc, X2, x + 1, x2, rs, by omega, by go_num, rfl, rfl, by omega, by omega, hU6, by rw [HNX.out]; exact hR, by rw [HNX.out]; exact hX2, E6⟩
        case measure => simp [intOf]; omega
    · obtain rfl : j = ds.length := by omega
      have hge : ¬ (ds.length < r) := by have := HLD.out; omega
      replace E := E.trans E2
      replace B0 := B0.ext E2
      replace B1 := B1.ext E2
      replace B2 := B2.ext E2
      have hul : (rfS p q g n m ds ds.length).1.length = u := by
        have h9 := hU.len
        have h8 := hR.1
        rw [List.length_map, h8, flD_length] at h9
        omega
      have HUL := Lib.hid hul
      have hXh := hX.high
      have hXl := hX.low
      clear hul
      have CC0 := B0.cells
      have CC1 := B1.cells
      go_wp2_with fail
      refine (plus_any p q g A n c cs B m d ss U u uc (rfS p q g n m ds ds.length).1 _ hG.bd (by omega) (by omega) (ha.ext E) (hb.ext E) (RowsRd.rd (hR.ext E2) hU.rd) HUL.out (by omega) (by omega) (by omega) HR.out).mono ?_
      rintro en w8 ⟨A5, c5, A6, c6, rfl, o5, hb8⟩
      have BF := B2.ext hb8
      have FZ := BF.frozen
      have CN := BF.cells
      have CZ := ((BF.set_ 0 (.slice A5 n c5)).set_ 1 (.slice A6 m c6)).cells
      have hwz := E.size
      have hwz9 := E2.size
      have hw90 := EW.size
      have hX8 := hX.ext hb8
      clear CC0 CC1
      go_wp2
      refine bodyPost_ret (v := .tuple #[.agg #[.slice A5 n c5, .slice A6 m c6], .slice X x xc, .bool true]) (by simp [results, Try.results52, CZ, go_sem]) rfl ⟨A5, n, c5, A6, m, c6, X, x, xc, by rw [HV.out], by rw [HVV.out]; exact (o5.keepBlk BF (by decide) (only_two _ _ _ _ _ _)).more (by first | exact Nat.le_refl _ | omega | (simp; done) | (simp; omega)), by rw [HVO.out]; exact (hX8.keepBlk BF (by decide) (only_two _ _ _ _ _ _)).more (by first | exact Nat.le_refl _ | omega | (simp; done) | (simp; omega)), by omega, Apart.of_high hXl o5.high, (E.trans hb8).only1 (by first | exact Nat.le_refl _ | omega | (simp; done) | (simp; omega)) (only_two _ _ _ _ _ _)⟩
end Go.Proofs.Ythamimjejlicpaa
