/- Contracts for wrong shares and for dealings of 0: the program's and the reference's. (Printed by tools/gen_zero.py.) -/
import Derived.Test.YtnhdohjlbchniaaProg
import Derived.Test.YtnhdohjlbchniaaSumSh
namespace Go.Proofs.Ytnhdohjlbchniaa
open Go.RowKit

/-- The trustees whose shares are wrong. -/
def badL (p q g : Int) (cs ss : List Int) : Nat → List Int
  | 0 => []
  | k + 1 => if fitB p q g cs ((k : Int) + 1) (ss.getD k 0) = true then badL p q g cs ss k else badL p q g cs ss k ++ [(k : Int) + 1]
theorem badL_len (p q g : Int) (cs ss : List Int) : ∀ k, (badL p q g cs ss k).length ≤ k
  | 0 => Nat.le_refl _
  | k + 1 => by
    have ih := badL_len p q g cs ss k
    unfold badL
    split
    · omega
    · simp; omega
theorem badL_rg (p q g : Int) (cs ss : List Int) : ∀ k, ∀ y ∈ badL p q g cs ss k, 1 ≤ y ∧ y ≤ k
  | 0, y, hy => by cases hy
  | k + 1, y, hy => by
    have ih := badL_rg p q g cs ss k y
    unfold badL at hy
    split at hy
    · have := ih hy; omega
    · rcases List.mem_append.1 hy with h1 | h1
      · have := ih h1; omega
      · have := List.mem_singleton.1 h1; omega
/-- The value at a trustee is 0, and all shares are right. -/
def zeroB (p q g : Int) (cs ss : List Int) (i : Int) : Bool := (comO p q cs i cs.length == 1) && decide ((badL p q g cs ss ss.length).length = 0)
structure DlF (q : Int) (cs ss : List Int) : Prop where
  c1 : 1 ≤ cs.length
  c7 : cs.length ≤ 7
  s1 : cs.length ≤ ss.length
  s7 : ss.length ≤ 7
  cr : ∀ y ∈ cs, 0 ≤ y ∧ y ≤ 3000000000
  sr : ∀ y ∈ ss, 0 ≤ y ∧ y ≤ q - 1
theorem dlF {p q g : Int} {cs ss : List Int} (hg : grpB p q g = true) (h : dlB p q cs ss = true) : DlF q cs ss := by
  have hr := dl_rng hg h
  simp only [dlB, Bool.and_eq_true] at h
  have h1 := inR_iff.1 h.1.1
  have h2 := inR_iff.1 h.2.1
  exact ⟨by omega, by omega, by omega, by omega, hr.r1, hr.r2⟩
set_option maxRecDepth 100000 in
set_option maxHeartbeats 4000000 in
theorem sBad_any (p q g : Int) (A : Option Addr) (n c : Nat) (cs : List Int) (B : Option Addr) (m d : Nat) (ss : List Int) (w : World) (hg : grpB p q g = true) (ha : SlI w A n c cs) (hb : SlI w B m d ss) (hf : DlF q cs ss) :
    Calls Try.prog 34 #[.agg #[.int .i64 p, .int .i64 q, .int .i64 g], .agg #[.slice A n c, .slice B m d]] w fun en w' => ∃ A' k c', en = .returned (.slice A' k c') ∧ OwnI w' w.heap.size 3 A' k c' (badL p q g cs ss m) ∧ Ext w w' := by
  have E := (((Ext.refl w).alloc (.cells #[.int .i64 p, .int .i64 q, .int .i64 g] 31)).alloc (.cells #[.slice A n c, .slice B m d] 68))
  have B0 := ((Blk.new w 31 #[.int .i64 p, .int .i64 q, .int .i64 g]).alloc (.cells #[.slice A n c, .slice B m d] 68))
  have B1 := (Blk.new (w.alloc (.cells #[.int .i64 p, .int .i64 q, .int .i64 g] 31)) 68 #[.slice A n c, .slice B m d])
  simp only [World.size_alloc] at B1
  have hGI := grpB_in hg
  have hG := hGI.bd
  have hq2 := hGI.q2
  have hp9 := hGI.p9
  have hqp := hGI.qp
  have hg2 := hGI.g2
  have hgp := hGI.gp
  have hnl := ha.len
  have hml := hb.len
  have f1 := hf.c7
  have f2 := hf.s7
  rw [hnl] at f1
  rw [hml] at f2
  have HCR := Lib.hid hf.cr
  have HSR := Lib.hid hf.sr
  have HML := Lib.hid hml
  clear hGI hg hml hf
  have C0 := B0.cells
  have C1 := B1.cells
  go_enter Try.func34, Try.ntmps34
  go_wp2
  generalize ((w.alloc (.cells #[.int .i64 p, .int .i64 q, .int .i64 g] 31)).alloc (.cells #[.slice A n c, .slice B m d] 68)) = Wb at *
  have hwz := E.size
  go_loopw [5, 11] (fun u k wr => ∃ (j x : Nat) (X : Option Addr) (a : Nat), j ≤ m ∧ k = .int .i64 j ∧ u = .slice X x a ∧ x ≤ j ∧ OwnI wr Wb.heap.size 3 X x a (badL p q g cs ss j) ∧ Ext Wb wr) (fun _ k _ => m - (intOf k).toNat)
  case atStart => exact ⟨0, 0, none, 0, Nat.zero_le _, rfl, rfl, Nat.le_refl _, OwnI.nil _ _ _, Ext.refl _⟩
  case round =>
    obtain ⟨j, x, X, a, hj, rfl, rfl, hxj, hX, E2⟩ := hrel
    by_cases hlt : j < m
    · have hls : j < ss.length := by rw [HML.out]; exact hlt
      obtain ⟨bd, rfl, hcb⟩ := (hb.rd.ext (E.trans E2)).at_ hls
      have hy := HSR.out _ (List.getElem_mem hls)
      have hst : badL p q g cs ss (j + 1) = if fitB p q g cs ((j : Int) + 1) ss[j] = true then badL p q g cs ss j else badL p q g cs ss j ++ [(j : Int) + 1] := by rw [badL, getD_get hls]
      generalize ss[j] = y at *
      have C2 := (B0.ext E2).cells
      have C3 := (B1.ext E2).cells
      have hcr := HCR.out
      cases hfi : fitB p q g cs ((j : Int) + 1) y
      · have HF := Lib.hid hfi
        have HNX : Hid (badL p q g cs ss (j + 1) = badL p q g cs ss j ++ [(j : Int) + 1]) := by show _ = _; rw [hst, hfi, if_neg (by simp)]
        have HCR2 := Lib.hid hcr
        clear hfi hst hcr
        go_wp2_with fail
        refine (sFits_any p q g ((j : Int) + 1) y A n c cs _ hG hq2 (by omega) (by omega) (by omega) (by omega) (ha.rd.ext (E.trans E2)) hnl (by omega) HCR2.out).mono ?_
        rintro en w3 ⟨hen, hb3⟩
        rw [HF.out] at hen; subst hen
        have E3 := E2.trans hb3
        replace hX := hX.ext hb3
        have hsz := E3.size
        go_wp2_with (at_builtin; refine wpList_app1F intSl rfl _ _ rfl hX rfl rfl rfl (by omega) hsz ?_; intro X2 x2 w4 hX2 hon1 hli1)
        have E4 := E3.only hon1 hX.high
        go_roundw
        case rel => exact ⟨j + 1, x + 1, X2, x2, by omega, by go_num, rfl, by omega, by rw [HNX.out]; exact hX2, E4⟩
        case measure => simp [intOf]; omega
      · have HF := Lib.hid hfi
        have HNX : Hid (badL p q g cs ss (j + 1) = badL p q g cs ss j) := by show _ = _; rw [hst, hfi, if_pos rfl]
        have HCR2 := Lib.hid hcr
        clear hfi hst hcr
        go_wp2_with fail
        refine (sFits_any p q g ((j : Int) + 1) y A n c cs _ hG hq2 (by omega) (by omega) (by omega) (by omega) (ha.rd.ext (E.trans E2)) hnl (by omega) HCR2.out).mono ?_
        rintro en w3 ⟨hen, hb3⟩
        rw [HF.out] at hen; subst hen
        go_wp2
        go_roundw
        case rel => exact ⟨j + 1, x, X, a, by omega, by go_num, rfl, by omega, by rw [HNX.out]; exact hX.ext hb3, E2.trans hb3⟩
        case measure => simp [intOf]; omega
    · obtain rfl : m = j := by omega
      go_wp2
      go_ret
      exact ⟨X, x, a, rfl, hX.more hwz, E.trans E2⟩
set_option maxRecDepth 100000 in
set_option maxHeartbeats 4000000 in
theorem bad_any (p q g : Int) (A : Option Addr) (n c : Nat) (cs : List Int) (B : Option Addr) (m d : Nat) (ss : List Int) (w : World) (hg : grpB p q g = true) (ha : SlI w A n c cs) (hb : SlI w B m d ss) (hf : DlF q cs ss) :
    Calls Try.prog 46 #[.agg #[.int .i64 p, .int .i64 q, .int .i64 g], .agg #[.slice A n c, .slice B m d]] w fun en w' => ∃ A' k c', en = .returned (.slice A' k c') ∧ OwnI w' w.heap.size 3 A' k c' (badL p q g cs ss m) ∧ Ext w w' := by
  have E := (((Ext.refl w).alloc (.cells #[.int .i64 p, .int .i64 q, .int .i64 g] 31)).alloc (.cells #[.slice A n c, .slice B m d] 68))
  have B0 := ((Blk.new w 31 #[.int .i64 p, .int .i64 q, .int .i64 g]).alloc (.cells #[.slice A n c, .slice B m d] 68))
  have B1 := (Blk.new (w.alloc (.cells #[.int .i64 p, .int .i64 q, .int .i64 g] 31)) 68 #[.slice A n c, .slice B m d])
  simp only [World.size_alloc] at B1
  have hGI := grpB_in hg
  have hG := hGI.bd
  have hq2 := hGI.q2
  have hp9 := hGI.p9
  have hqp := hGI.qp
  have hg2 := hGI.g2
  have hgp := hGI.gp
  have hnl := ha.len
  have hml := hb.len
  have f1 := hf.c7
  have f2 := hf.s7
  rw [hnl] at f1
  rw [hml] at f2
  have HCR := Lib.hid hf.cr
  have HSR := Lib.hid hf.sr
  have HML := Lib.hid hml
  clear hGI hg hml hf
  have C0 := B0.cells
  have C1 := B1.cells
  have C2 := (B1.alloc (.cells #[] 3)).cells
  have HWS : Hid ((((w.alloc (.cells #[.int .i64 p, .int .i64 q, .int .i64 g] 31)).alloc (.cells #[.slice A n c, .slice B m d] 68))).heap.size = w.heap.size + 1 + 1) := by show _ = _; simp
  go_enter Try.func46, Try.ntmps46
  go_wp2
  generalize ((w.alloc (.cells #[.int .i64 p, .int .i64 q, .int .i64 g] 31)).alloc (.cells #[.slice A n c, .slice B m d] 68)) = Wb at *
  have hwz := E.size
  have E00 := (Ext.refl Wb).alloc (.cells #[] 3)
  have hX0 : OwnI (Wb.alloc (.cells #[] 3)) Wb.heap.size 3 (some ⟨w.heap.size + 1 + 1, 0, none⟩) 0 0 [] := ownI_lit (n := 0) (w := Wb) [] rfl HWS.out.symm (Nat.le_refl _) (Nat.zero_le _)
  go_loopw [5, 12] (fun u k wr => ∃ (j x : Nat) (X : Option Addr) (a : Nat), j ≤ m ∧ k = .int .i64 j ∧ u = .slice X x a ∧ x ≤ j ∧ OwnI wr Wb.heap.size 3 X x a (badL p q g cs ss j) ∧ Ext Wb wr) (fun _ k _ => m - (intOf k).toNat)
  case atStart => exact ⟨0, 0, _, _, Nat.zero_le _, rfl, rfl, Nat.le_refl _, hX0, E00⟩
  case round =>
    obtain ⟨j, x, X, a, hj, rfl, rfl, hxj, hX, E2⟩ := hrel
    by_cases hlt : j < m
    · have hls : j < ss.length := by rw [HML.out]; exact hlt
      obtain ⟨bd, rfl, hcb⟩ := (hb.rd.ext (E.trans E2)).at_ hls
      have hy := HSR.out _ (List.getElem_mem hls)
      have hst : badL p q g cs ss (j + 1) = if fitB p q g cs ((j : Int) + 1) ss[j] = true then badL p q g cs ss j else badL p q g cs ss j ++ [(j : Int) + 1] := by rw [badL, getD_get hls]
      generalize ss[j] = y at *
      have C2 := (B0.ext E2).cells
      have C3 := (B1.ext E2).cells
      have hcr := HCR.out
      cases hfi : fitB p q g cs ((j : Int) + 1) y
      · have HF := Lib.hid hfi
        have HNX : Hid (badL p q g cs ss (j + 1) = badL p q g cs ss j ++ [(j : Int) + 1]) := by show _ = _; rw [hst, hfi, if_neg (by simp)]
        have HCR2 := Lib.hid hcr
        clear hfi hst hcr
        go_wp2_with fail
        refine (isShare_any p q g ((j : Int) + 1) y A n c cs _ hG hq2 (by omega) (by omega) (by omega) (by omega) (ha.rd.ext (E.trans E2)) hnl (by omega) HCR2.out).mono ?_
        rintro en w3 ⟨hen, hb3⟩
        rw [HF.out] at hen; subst hen
        have E3 := E2.trans hb3
        replace hX := hX.ext hb3
        have hsz := E3.size
        go_wp2_with (at_builtin; refine wpList_app1F intSl rfl _ _ rfl hX rfl rfl rfl (by omega) hsz ?_; intro X2 x2 w4 hX2 hon1 hli1)
        have E4 := E3.only hon1 hX.high
        go_roundw
        case rel => exact ⟨j + 1, x + 1, X2, x2, by omega, by go_num, rfl, by omega, by rw [HNX.out]; exact hX2, E4⟩
        case measure => simp [intOf]; omega
      · have HF := Lib.hid hfi
        have HNX : Hid (badL p q g cs ss (j + 1) = badL p q g cs ss j) := by show _ = _; rw [hst, hfi, if_pos rfl]
        have HCR2 := Lib.hid hcr
        clear hfi hst hcr
        go_wp2_with fail
        refine (isShare_any p q g ((j : Int) + 1) y A n c cs _ hG hq2 (by omega) (by omega) (by omega) (by omega) (ha.rd.ext (E.trans E2)) hnl (by omega) HCR2.out).mono ?_
        rintro en w3 ⟨hen, hb3⟩
        rw [HF.out] at hen; subst hen
        go_wp2
        go_roundw
        case rel => exact ⟨j + 1, x, X, a, by omega, by go_num, rfl, by omega, by rw [HNX.out]; exact hX.ext hb3, E2.trans hb3⟩
        case measure => simp [intOf]; omega
    · obtain rfl : m = j := by omega
      go_wp2
      go_ret
      exact ⟨X, x, a, rfl, hX.more hwz, E.trans E2⟩
end Go.Proofs.Ytnhdohjlbchniaa
