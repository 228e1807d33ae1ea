/- Contracts for the value at a trustee from right shares: the program's and the reference's. (Printed by tools/gen_rec.py.) -/
import Derived.Test.YthamimjejlicpaaProg
import Derived.Test.YthamimjejlicpaaVal
import Derived.Test.YthamimjejlicpaaLag
import Derived.Test.YthamimjejlicpaaLies
import Derived.Deep.AppendLies
import Derived.Deep.RegionLaw
namespace Go.Proofs.Ythamimjejlicpaa
open Go.RowKit

set_option maxHeartbeats 1000000 in
theorem nDot_any (A B : Option Addr) (n c d : Nat) (a b : List Int) (m : Int) (w : World) (ha : RdI w A a) (hb : RdI w B b) (hl : a.length = n) (hl2 : b.length = n) (hn : n ≤ 1000000) (hm : 2 ≤ m) (hm2 : m ≤ 2000000000)
    (hx : ∀ x ∈ a, 0 ≤ x ∧ x ≤ m - 1) (hy : ∀ x ∈ b, 0 ≤ x ∧ x ≤ m - 1) :
    Calls Try.prog 144 #[.slice A n c, .slice B n d, .int .i64 m] w fun e w' => e = .returned (.int .i64 (dotV a b m n)) ∧ w = w' := by
  subst hl
  have HX := Lib.hid hx
  have HY := Lib.hid hy
  have h0 : (m == 0) = false := by simp; omega
  have HL := Lib.hid hl2
  clear hx hy
  go_enter Try.func144, Try.ntmps144
  go_wp2
  go_loop [7, 12] (fun o i => ∃ (j : Nat) (s : Int), j ≤ a.length ∧ i = .int .i64 j ∧ o = .int .i64 s ∧ 0 ≤ s ∧ s < m ∧ Hid (s = dotV a b m j)) (fun _ i => a.length - (intOf i).toNat)
  case atStart => exact ⟨0, 0, Nat.zero_le _, rfl, rfl, by omega, by omega, rfl⟩
  case round =>
    obtain ⟨j, s, hj, rfl, rfl, hs1, hs2, HS⟩ := hrel
    by_cases hlt : j < a.length
    · have hlt' : j < b.length := by rw [hl2]; exact hlt
      obtain ⟨ad, rfl, hca⟩ := ha.at_ hlt
      obtain ⟨bd, rfl, hcb⟩ := hb.at_ hlt'
      have hx := HX.out _ (List.getElem_mem hlt)
      have hy := HY.out _ (List.getElem_mem hlt')
      have H1 := Lib.hid (dotV_succ a b m hlt hlt')
      generalize a[j] = x at *
      generalize b[j] = y at *
      have hxy : 0 ≤ x * y ∧ x * y ≤ 4000000000000000000 := ⟨Int.mul_nonneg hx.1 hy.1, by have := Int.mul_le_mul (show x ≤ 2000000000 by omega) (show y ≤ 2000000000 by omega) hy.1 (by omega); omega⟩
      have hq := Int.emod_lt_of_pos (s + x * y) (show 0 < m by omega)
      have hq2 := Int.emod_nonneg (s + x * y) (show m ≠ 0 by omega)
      go_wp2
      go_round
      case rel => exact ⟨j + 1, (s + x * y) % m, by omega, by go_num, rfl, hq2, hq, by rw [Hid, H1.out, ← HS.out, mod_in]⟩
      case measure => simp [intOf]; omega
    · obtain rfl : j = a.length := by omega
      go_wp2
      go_ret
      exact ⟨ret_int HS.out, rfl⟩
/-- The right shares in order, as many as there are commitments. -/
def selP (p q g : Int) (cs is ss : List Int) : Nat → List Int × List Int
  | 0 => ([], [])
  | k + 1 => if (selP p q g cs is ss k).1.length < cs.length ∧ fitB p q g cs (is.getD k 0) (ss.getD k 0) = true then ((selP p q g cs is ss k).1 ++ [is.getD k 0], (selP p q g cs is ss k).2 ++ [ss.getD k 0]) else selP p q g cs is ss k
theorem selP_len (p q g : Int) (cs is ss : List Int) : ∀ k, (selP p q g cs is ss k).2.length = (selP p q g cs is ss k).1.length ∧ (selP p q g cs is ss k).1.length ≤ k
  | 0 => ⟨rfl, Nat.le_refl _⟩
  | k + 1 => by
    have ih := selP_len p q g cs is ss k
    unfold selP
    split
    · simp; omega
    · omega
theorem selP_le (p q g : Int) (cs is ss : List Int) : ∀ k, (selP p q g cs is ss k).1.length ≤ cs.length
  | 0 => Nat.zero_le _
  | k + 1 => by
    have ih := selP_le p q g cs is ss k
    unfold selP
    split
    · rename_i h; simp; omega
    · exact ih
theorem selP_sub (p q g : Int) (cs is ss : List Int) : ∀ k, k ≤ is.length → ((selP p q g cs is ss k).1).Sublist (is.take k)
  | 0, _ => by simp [selP]
  | k + 1, hk => by
    have ih := selP_sub p q g cs is ss k (by omega)
    have hlt : k < is.length := by omega
    rw [List.take_succ_eq_append_getElem hlt]
    unfold selP
    split
    · rw [getD_get hlt]; exact ih.append (List.Sublist.refl _)
    · exact ih.trans (List.sublist_append_left _ _)
theorem selP_sub2 (p q g : Int) (cs is ss : List Int) : ∀ k, k ≤ ss.length → ∀ y ∈ (selP p q g cs is ss k).2, y ∈ ss
  | 0, _, y, hy => by cases hy
  | k + 1, hk, y, hy => by
    have ih := selP_sub2 p q g cs is ss k (by omega) y
    have hlt : k < ss.length := by omega
    unfold selP at hy
    split at hy
    · rcases List.mem_append.1 hy with h1 | h1
      · exact ih h1
      · rw [getD_get hlt] at h1
        rw [List.mem_singleton.1 h1]
        exact List.getElem_mem hlt
    · exact ih hy
noncomputable def rcV (p q g : Int) (cs : List Int) (i : Int) (is ss : List Int) : Int :=
  if (selP p q g cs is ss is.length).1.length < cs.length then 0 else dotV (lagL q (selP p q g cs is ss is.length).1 i (selP p q g cs is ss is.length).1.length) (selP p q g cs is ss is.length).2 q (selP p q g cs is ss is.length).1.length
def rcK (p q g : Int) (cs is ss : List Int) : Bool := decide (¬ (selP p q g cs is ss is.length).1.length < cs.length)
set_option maxRecDepth 100000 in
set_option maxHeartbeats 4000000 in
theorem rValue_any (p q g i : Int) (A : Option Addr) (n c : Nat) (cs : List Int) (B : Option Addr) (m d : Nat) (is : List Int) (C : Option Addr) (e : Nat) (ss : List Int) (w : World) (h : grpB p q g = true) (h7 : 7 < q) (ha : RdI w A cs) (hl : cs.length = n) (hn : n ≤ 7) (hb : ∀ y ∈ cs, 0 ≤ y ∧ y ≤ 3000000000) (hi : 1 ≤ i ∧ i ≤ 7) (hB : RdI w B is) (hm : is.length = m) (hm7 : m ≤ 7) (hC : RdI w C ss) (hs : ss.length = m) (ri : ∀ y ∈ is, 1 ≤ y ∧ y ≤ 7) (hd : is.Nodup) (rs : ∀ y ∈ ss, 0 ≤ y ∧ y ≤ q - 1) :
    Calls Try.prog 86 #[.agg #[.int .i64 p, .int .i64 q, .int .i64 g], .slice A n c, .int .i64 i, .slice B m d, .slice C m e] w fun en w' => en = .returned (.tuple #[.int .i64 (rcV p q g cs i is ss), .bool (rcK p q g cs is ss)]) ∧ Ext w w' := by
  have hGI := grpB_in h
  have hG := hGI.bd
  have hq2 := hGI.q2
  have hp9 := hGI.p9
  have hqp := hGI.qp
  have hg2 := hGI.g2
  have hgp := hGI.gp
  subst hl hm
  have HCB := Lib.hid hb
  have HRI := Lib.hid ri
  have HRS := Lib.hid rs
  have HSS := Lib.hid hs
  have HH := Lib.hid h
  have HD := Lib.hid hd
  have E := (Ext.refl w).alloc (.cells #[.int .i64 p, .int .i64 q, .int .i64 g] 25)
  have B0 := Blk.new w 25 #[.int .i64 p, .int .i64 q, .int .i64 g]
  have hws : (w.alloc (.cells #[.int .i64 p, .int .i64 q, .int .i64 g] 25)).heap.size = w.heap.size + 1 := by simp
  have HWS := Lib.hid hws
  clear hb ri rs hGI h hd hws
  go_enter Try.func86, Try.ntmps86
  go_wp2
  generalize (w.alloc (.cells #[.int .i64 p, .int .i64 q, .int .i64 g] 25)) = Wb at *
  go_loopw [12, 13, 18] (fun u v k wr => ∃ (j m : Nat) (X : Option Addr) (x : Nat) (Y : Option Addr) (z : Nat), j ≤ is.length ∧ k = .int .i64 j ∧ u = .slice X m x ∧ v = .slice Y m z ∧ m ≤ 7 ∧ OwnI wr Wb.heap.size 3 X m x (selP p q g cs is ss j).1 ∧ OwnI wr Wb.heap.size 3 Y m z (selP p q g cs is ss j).2 ∧ Apart (fpI X) (fpI Y) ∧ Ext Wb wr) (fun _ _ k _ => is.length - (intOf k).toNat)
  case atStart => exact ⟨0, 0, none, 0, none, 0, Nat.zero_le _, rfl, rfl, rfl, by omega, OwnI.nil _ _ _, OwnI.nil _ _ _, fun b hb => by simp [fpI] at hb, Ext.refl _⟩
  case round =>
    obtain ⟨j, m, X, x, Y, z, hj, rfl, rfl, rfl, hm7', hX, hY, hap, E2⟩ := hrel
    have hmX := hX.len
    by_cases hlt : j < is.length
    · have hlt2 : j < ss.length := by rw [HSS.out]; exact hlt
      obtain ⟨bd, rfl, hcb⟩ := (hB.ext (E.trans E2)).at_ hlt
      obtain ⟨cd, rfl, hcc⟩ := (hC.ext E).at_ hlt2
      obtain ⟨i1, i2⟩ := HRI.out _ (List.getElem_mem hlt)
      obtain ⟨y1, y2⟩ := HRS.out _ (List.getElem_mem hlt2)
      have hst : selP p q g cs is ss (j + 1) = if m < cs.length ∧ fitB p q g cs is[j] ss[j] = true then ((selP p q g cs is ss j).1 ++ [is[j]], (selP p q g cs is ss j).2 ++ [ss[j]]) else selP p q g cs is ss j := by rw [selP, getD_get hlt, getD_get hlt2, hmX]
      have HST := Lib.hid hst
      have HMX := Lib.hid hmX
      clear hst hmX
      generalize is[j] = t at *
      generalize ss[j] = y at *
      have hS : ∀ V, Ext Wb V → V.cell? ⟨w.heap.size, 0, none⟩ = some (.int .i64 p) ∧ V.cell? ⟨w.heap.size, 1, none⟩ = some (.int .i64 q) ∧ V.cell? ⟨w.heap.size, 2, none⟩ = some (.int .i64 g) ∧ V.cell? (cd.add j) = some (.int .i64 y) := fun V hV => by
        have a0 := (B0.ext hV).cells
        exact ⟨a0 0, a0 1, a0 2, hV.cell hcc⟩
      have hcc2 := E2.cell hcc
      by_cases hmt : m < cs.length
      · cases hf : fitB p q g cs t y
        · have HF := Lib.hid hf
          have HNX : Hid (selP p q g cs is ss (j + 1) = selP p q g cs is ss j) := by show _ = _; rw [HST.out, hf, if_neg (by simp)]
          clear hf
          go_wp2
          go_region_held3 (fun V => V.cell? ⟨w.heap.size, 0, none⟩ = some (.int .i64 p) ∧ V.cell? ⟨w.heap.size, 1, none⟩ = some (.int .i64 q) ∧ V.cell? ⟨w.heap.size, 2, none⟩ = some (.int .i64 g) ∧ V.cell? (cd.add j) = some (.int .i64 y)) (exact hS _ (by repeat (first | with_reducible assumption | with_reducible exact Ext.refl _ | with_reducible apply Ext.alloc | with_reducible apply Ext.drew | with_reducible apply Ext.drewN)))
            (first
              | (go_at_call 143; refine (sFits_any p q g t y A cs.length c cs _ hG hq2 (by omega) (by omega) (by omega) (by omega) (ha.ext (Ext.trans E (by repeat (first | with_reducible assumption | with_reducible exact Ext.refl _ | with_reducible apply Ext.alloc | with_reducible apply Ext.drew | with_reducible apply Ext.drewN)))) rfl (by omega) HCB.out).mono ?_; rintro en w3 ⟨he, hb3⟩; rw [HF.out] at he; subst he; have hx3 := Ext.trans (w := Wb) (by repeat (first | with_reducible assumption | with_reducible exact Ext.refl _ | with_reducible apply Ext.alloc | with_reducible apply Ext.drew | with_reducible apply Ext.drewN)) hb3; have hr3 := Ext.trans (w := wr) (by repeat (first | with_reducible assumption | with_reducible exact Ext.refl _ | with_reducible apply Ext.alloc | with_reducible apply Ext.drew | with_reducible apply Ext.drewN)) hb3)
              | fail)
          go_wp2
          go_roundw
          case rel => exact ⟨j + 1, m, X, x, Y, z, by omega, by go_num, rfl, rfl, hm7', by rw [HNX.out]; exact hX.ext hr3, by rw [HNX.out]; exact hY.ext hr3, hap, hx3⟩
          case measure => simp [intOf]; omega
        · have HF := Lib.hid hf
          have HNX : Hid (selP p q g cs is ss (j + 1) = ((selP p q g cs is ss j).1 ++ [t], (selP p q g cs is ss j).2 ++ [y])) := by show _ = _; rw [HST.out, hf, if_pos ⟨hmt, rfl⟩]
          clear hf
          go_wp2
          go_region_held3 (fun V => V.cell? ⟨w.heap.size, 0, none⟩ = some (.int .i64 p) ∧ V.cell? ⟨w.heap.size, 1, none⟩ = some (.int .i64 q) ∧ V.cell? ⟨w.heap.size, 2, none⟩ = some (.int .i64 g) ∧ V.cell? (cd.add j) = some (.int .i64 y)) (exact hS _ (by repeat (first | with_reducible assumption | with_reducible exact Ext.refl _ | with_reducible apply Ext.alloc | with_reducible apply Ext.drew | with_reducible apply Ext.drewN)))
            (first
              | (go_at_call 143; refine (sFits_any p q g t y A cs.length c cs _ hG hq2 (by omega) (by omega) (by omega) (by omega) (ha.ext (Ext.trans E (by repeat (first | with_reducible assumption | with_reducible exact Ext.refl _ | with_reducible apply Ext.alloc | with_reducible apply Ext.drew | with_reducible apply Ext.drewN)))) rfl (by omega) HCB.out).mono ?_; rintro en w3 ⟨he, hb3⟩; rw [HF.out] at he; subst he; have hx3 := Ext.trans (w := Wb) (by repeat (first | with_reducible assumption | with_reducible exact Ext.refl _ | with_reducible apply Ext.alloc | with_reducible apply Ext.drew | with_reducible apply Ext.drewN)) hb3; have hr3 := Ext.trans (w := wr) (by repeat (first | with_reducible assumption | with_reducible exact Ext.refl _ | with_reducible apply Ext.alloc | with_reducible apply Ext.drew | with_reducible apply Ext.drewN)) hb3)
              | fail)
          replace hX := hX.ext hr3
          replace hY := hY.ext hr3
          have hsz := hx3.size
          go_wp2_with (first | (at_builtin; refine wpList_app1F intSl rfl _ _ rfl hX rfl rfl rfl (by omega) hsz ?_; intro X2 x2 w4 hX2 hon1 hli1; have E3 := hx3.only hon1 hX.high; have hc4 : w4.cell? (cd.add j) = some (.int .i64 y) := E3.cell hcc; have hY1 := hY.only hon1 hap.symm; have hap2 : Apart (fpI X2) (fpI Y) := hap.app hY.low hli1; have hsz4 := E3.size) | (at_builtin; refine wpList_app1F intSl rfl _ _ rfl hY1 rfl rfl rfl (by omega) hsz4 ?_; intro Y2 z2 w5 hY2 hon2 hli2))
          have E4 := E3.only hon2 hY1.high
          have hX3 := hX2.only hon2 hap2
          have hap3 : Apart (fpI X2) (fpI Y2) := (hap2.symm.app hX2.low hli2).symm
          go_roundw
          case rel => exact ⟨j + 1, m + 1, X2, x2, Y2, z2, by omega, by go_num, rfl, rfl, by omega, by rw [HNX.out]; exact hX3, by rw [HNX.out]; exact hY2, hap3, E4⟩
          case measure => simp [intOf]; omega
      · have HNX : Hid (selP p q g cs is ss (j + 1) = selP p q g cs is ss j) := by show _ = _; rw [HST.out, if_neg (by omega)]
        have E9 : ∀ N : Nat, Ext Wb (wr.drewN N) := fun N => E2.drewN N
        go_wp2
        go_quiet (fail)
        go_wp2
        go_roundw
        case rel => exact ⟨j + 1, m, X, x, Y, z, by omega, by go_num, rfl, rfl, hm7', by rw [HNX.out]; exact hX.ext ((Ext.refl _).drewN _), by rw [HNX.out]; exact hY.ext ((Ext.refl _).drewN _), hap, E9 _⟩
        case measure => simp [intOf]; omega
    · obtain rfl : j = is.length := by omega
      by_cases hmt : m < cs.length
      · have hv : rcV p q g cs i is ss = 0 := by unfold rcV; rw [if_pos (by omega)]
        have hk : rcK p q g cs is ss = false := by unfold rcK; simp; omega
        have HV := Lib.hid hv
        have HK := Lib.hid hk
        clear hv hk
        go_wp2
        go_ret2
        exact ⟨by rw [HV.out, HK.out]; rfl, E.trans E2⟩
      · have hsl := selP_len p q g cs is ss is.length
        have hv : rcV p q g cs i is ss = dotV (lagL q (selP p q g cs is ss is.length).1 i m) (selP p q g cs is ss is.length).2 q m := by unfold rcV; rw [if_neg (by omega), hmX]
        have hk : rcK p q g cs is ss = true := by unfold rcK; simp; omega
        have hsub := selP_sub p q g cs is ss is.length (Nat.le_refl _)
        rw [List.take_length] at hsub
        have hnd := HD.out.sublist hsub
        have hrx : ∀ y ∈ (selP p q g cs is ss is.length).1, 0 ≤ y ∧ y ≤ q - 1 := fun y hy => by have := HRI.out _ (hsub.subset hy); omega
        have hry : ∀ y ∈ (selP p q g cs is ss is.length).2, 0 ≤ y ∧ y ≤ q - 1 := fun y hy => HRS.out _ (selP_sub2 p q g cs is ss is.length (by have := HSS.out; omega) y hy)
        have HRX := Lib.hid hrx
        have HRY := Lib.hid hry
        have HND := Lib.hid hnd
        have HMX := Lib.hid hmX
        have hyl := hY.len
        have HYL := Lib.hid hyl
        have HV := Lib.hid hv
        have HK := Lib.hid hk
        clear hv hk hsub hnd hrx hry hmX hyl hsl
        generalize (selP p q g cs is ss is.length).1 = xs at *
        generalize (selP p q g cs is ss is.length).2 = ys at *
        have hS : ∀ V, Ext Wb V → V.cell? ⟨w.heap.size, 0, none⟩ = some (.int .i64 p) ∧ V.cell? ⟨w.heap.size, 1, none⟩ = some (.int .i64 q) ∧ V.cell? ⟨w.heap.size, 2, none⟩ = some (.int .i64 g) := fun V hV => by
          have a0 := (B0.ext hV).cells
          exact ⟨a0 0, a0 1, a0 2⟩
        have hlb := lagL_bd hq2 xs i m
        have HLB := Lib.hid hlb
        clear hlb
        go_wp2
        go_region_held3 (fun V => V.cell? ⟨w.heap.size, 0, none⟩ = some (.int .i64 p) ∧ V.cell? ⟨w.heap.size, 1, none⟩ = some (.int .i64 q) ∧ V.cell? ⟨w.heap.size, 2, none⟩ = some (.int .i64 g)) (exact hS _ (by repeat (first | with_reducible assumption | with_reducible exact Ext.refl _ | with_reducible apply Ext.alloc | with_reducible apply Ext.drew | with_reducible apply Ext.drewN)))
          (first
            | (go_at_call 110; refine (yLagrange_any p q g i _ m _ xs _ HH.out (hX.ext (by repeat (first | with_reducible assumption | with_reducible exact Ext.refl _ | with_reducible apply Ext.alloc | with_reducible apply Ext.drew | with_reducible apply Ext.drewN))).rd HMX.out (by omega) HND.out HRX.out (by omega)).mono ?_; rintro en w5 ⟨L, l5, rfl, hL, hb5⟩; have hx5 := Ext.trans (w := Wb) (by repeat (first | with_reducible assumption | with_reducible exact Ext.refl _ | with_reducible apply Ext.alloc | with_reducible apply Ext.drew | with_reducible apply Ext.drewN)) hb5; have hr5 := Ext.trans (w := wr) (by repeat (first | with_reducible assumption | with_reducible exact Ext.refl _ | with_reducible apply Ext.alloc | with_reducible apply Ext.drew | with_reducible apply Ext.drewN)) hb5)
            | (go_at_call 144; refine (nDot_any _ _ m _ _ (lagL q xs i m) ys q _ (RdI.ext hL.rd (by repeat (first | with_reducible assumption | with_reducible exact Ext.refl _ | with_reducible apply Ext.alloc | with_reducible apply Ext.drew | with_reducible apply Ext.drewN))) ((hY.ext (Ext.trans hr5 (by repeat (first | with_reducible assumption | with_reducible exact Ext.refl _ | with_reducible apply Ext.alloc | with_reducible apply Ext.drew | with_reducible apply Ext.drewN)))).rd) (lagL_length q xs i m) HYL.out (by omega) hq2 (by omega) HLB.out HRY.out).mono ?_; rintro en w6 ⟨rfl, rfl⟩; have hx6 := Ext.trans (w := Wb) hx5 (by repeat (first | with_reducible assumption | with_reducible exact Ext.refl _ | with_reducible apply Ext.alloc | with_reducible apply Ext.drew | with_reducible apply Ext.drewN)))
            | fail)
        go_wp2
        go_ret2
        exact ⟨by rw [HV.out, HK.out]; rfl, E.trans hx6⟩
/-- An append in a region that draws its order. -/
theorem step_app1F {P : Program} {w : World} {ops : Array Oper} {o : Oper} {a : Act} {K : Act → World → Prop} {Q : Exit → Act → World → Prop} {E : Prop} {t e : TypeId} (S : IntSl P t e) {y : Int}
    (hg : o.guard = none) (s x : Operand) (ho : o.op = .call { callee := .builtin .append, args := #[s, x], argTypes := #[t, t] })
    {base : Nat} {A : Option Addr} {n c c' : Nat} {l : List Int} (hown : OwnI w base e A n c l) (hs : a.eval s = .slice A n c)
    (ad : Addr) (hx : a.eval x = .slice (some ad) 1 c') (hy : w.cell? ad = some (.int .i64 y)) (hn : n ≤ 1000000000) (hb : base ≤ w.heap.size)
    (hK : ∀ A' d w', OwnI w' base e A' (n + 1) d (l ++ [y]) → Only (fpI A) w w' → (∀ b ∈ fpI A', b ∈ fpI A ∨ w.heap.size ≤ b) → K (a.put o.dst (.slice A' (n + 1) d)) w') :
    if Region.wanted o (yielded ops a.tmps) = true then Oper.wp P o a w K Q else E := by
  obtain ⟨i, h2, h3, h4, h5⟩ := S.hi
  refine step_append_lies (P := P) w hg s x t ho base e i (.int .i64 0) 1 8 S.ht h2 h3 h4 h5 rfl (by omega) (.slice A n c) n (ints l) hs hown ad 1 c' [.int .i64 y] hx (by simp) ?_ (by simp [Value.oneCell']) (by omega) (by unfold maxLen; omega) (by omega) hb _ rfl ?_
  · intro j u hu
    match j with
    | 0 => simp only [List.getElem?_cons_zero, Option.some.injEq] at hu; subst hu; rw [show ad.add 0 = ad from rfl]; exact hy
    | j + 1 => simp at hu
  · intro g d w' h6 h7 h8 h9
    rw [← ints_one, ← ints_append] at h6
    refine hK _ _ w' h6 (only_of_grown h7) fun b hb => ?_
    simp only [fpI, List.mem_singleton] at hb
    subst hb
    rcases h8 with h8 | h8
    · left
      cases A with
      | none => simp [Value.ownBlock] at h8
      | some a => simp only [Value.ownBlock, Option.some.injEq] at h8; simp [fpI, h8]
    · right; omega
theorem cell_lit {w V : World} {y : Int} {e : TypeId} {k : Nat} (hk : k = w.heap.size) (h : Ext (w.alloc (.cells #[.int .i64 y] e)) V) : V.cell? ⟨k, 0, none⟩ = some (.int .i64 y) := by
  subst hk
  exact h.cell (cell_one_new w _ _ 0 _ rfl)
theorem keep_cell {w V w4 : World} {fp : List Nat} {k : Nat} {u : Value} (hl : Low fp w.heap.size) (h : Only fp V w4) (h1 : V.cell? ⟨k, 0, none⟩ = some u) (h2 : w.heap.size ≤ k) (h3 : k < V.heap.size) : w4.cell? ⟨k, 0, none⟩ = some u := by
  rw [← h1]
  exact World.cell?_of_block (h.block k h3 fun hk => by have := hl k hk; omega)
set_option maxRecDepth 100000 in
set_option maxHeartbeats 4000000 in
theorem valueAt_any (p q g i : Int) (A : Option Addr) (n c : Nat) (cs : List Int) (B : Option Addr) (m d : Nat) (is : List Int) (C : Option Addr) (e : Nat) (ss : List Int) (w : World) (h : grpB p q g = true) (h7 : 7 < q) (ha : RdI w A cs) (hl : cs.length = n) (hn : n ≤ 7) (hb : ∀ y ∈ cs, 0 ≤ y ∧ y ≤ 3000000000) (hi : 1 ≤ i ∧ i ≤ 7) (hB : RdI w B is) (hm : is.length = m) (hm7 : m ≤ 7) (hC : RdI w C ss) (hs : ss.length = m) (ri : ∀ y ∈ is, 1 ≤ y ∧ y ≤ 7) (hd : is.Nodup) (rs : ∀ y ∈ ss, 0 ≤ y ∧ y ≤ q - 1) :
    Calls Try.prog 89 #[.agg #[.int .i64 p, .int .i64 q, .int .i64 g], .slice A n c, .slice B m d, .slice C m e, .int .i64 i] w fun en w' => en = .returned (.tuple #[.int .i64 (rcV p q g cs i is ss), .bool (rcK p q g cs is ss)]) ∧ Ext w w' := by
  have hGI := grpB_in h
  have hG := hGI.bd
  have hq2 := hGI.q2
  have hp9 := hGI.p9
  have hqp := hGI.qp
  have hg2 := hGI.g2
  have hgp := hGI.gp
  subst hl hm
  have HCB := Lib.hid hb
  have HRI := Lib.hid ri
  have HRS := Lib.hid rs
  have HSS := Lib.hid hs
  have HH := Lib.hid h
  have HD := Lib.hid hd
  have E := (Ext.refl w).alloc (.cells #[.int .i64 p, .int .i64 q, .int .i64 g] 25)
  have B0 := Blk.new w 25 #[.int .i64 p, .int .i64 q, .int .i64 g]
  have hws : (w.alloc (.cells #[.int .i64 p, .int .i64 q, .int .i64 g] 25)).heap.size = w.heap.size + 1 := by simp
  have HWS := Lib.hid hws
  clear hb ri rs hGI h hd hws
  go_enter Try.func89, Try.ntmps89
  go_wp2
  generalize (w.alloc (.cells #[.int .i64 p, .int .i64 q, .int .i64 g] 25)) = Wb at *
  have E00 := ((Ext.refl Wb).alloc (.cells #[] 3)).alloc (.cells #[] 3)
  have hX0 : OwnI ((Wb.alloc (.cells #[] 3)).alloc (.cells #[] 3)) Wb.heap.size 3 (some ⟨w.heap.size + 1, 0, none⟩) 0 0 [] := (ownI_lit (n := 0) (w := Wb) [] rfl HWS.out.symm (Nat.le_refl _) (Nat.zero_le _)).ext ((Ext.refl _).alloc _)
  have hY0 : OwnI ((Wb.alloc (.cells #[] 3)).alloc (.cells #[] 3)) Wb.heap.size 3 (some ⟨w.heap.size + 1 + 1, 0, none⟩) 0 0 [] := ownI_lit (n := 0) (w := Wb.alloc (.cells #[] 3)) [] rfl (by have := HWS.out; simp; omega) (by simp) (Nat.zero_le _)
  have hap0 : Apart (fpI (some (⟨w.heap.size + 1, 0, none⟩ : Addr))) (fpI (some ⟨w.heap.size + 1 + 1, 0, none⟩)) := fun b hb hb' => by simp [fpI] at hb hb'; omega
  go_loopw [12, 13, 20] (fun u v k wr => ∃ (j m : Nat) (X : Option Addr) (x : Nat) (Y : Option Addr) (z : Nat), j ≤ is.length ∧ k = .int .i64 j ∧ u = .slice X m x ∧ v = .slice Y m z ∧ m ≤ 7 ∧ OwnI wr Wb.heap.size 3 X m x (selP p q g cs is ss j).1 ∧ OwnI wr Wb.heap.size 3 Y m z (selP p q g cs is ss j).2 ∧ Apart (fpI X) (fpI Y) ∧ Ext Wb wr) (fun _ _ k _ => is.length - (intOf k).toNat)
  case atStart => exact ⟨0, 0, _, _, _, _, Nat.zero_le _, rfl, rfl, rfl, by omega, hX0, hY0, hap0, E00⟩
  case round =>
    obtain ⟨j, m, X, x, Y, z, hj, rfl, rfl, rfl, hm7', hX, hY, hap, E2⟩ := hrel
    have hmX := hX.len
    by_cases hlt : j < is.length
    · have hlt2 : j < ss.length := by rw [HSS.out]; exact hlt
      obtain ⟨bd, rfl, hcb⟩ := (hB.ext (E.trans E2)).at_ hlt
      obtain ⟨cd, rfl, hcc⟩ := (hC.ext E).at_ hlt2
      obtain ⟨i1, i2⟩ := HRI.out _ (List.getElem_mem hlt)
      obtain ⟨y1, y2⟩ := HRS.out _ (List.getElem_mem hlt2)
      have hst : selP p q g cs is ss (j + 1) = if m < cs.length ∧ fitB p q g cs is[j] ss[j] = true then ((selP p q g cs is ss j).1 ++ [is[j]], (selP p q g cs is ss j).2 ++ [ss[j]]) else selP p q g cs is ss j := by rw [selP, getD_get hlt, getD_get hlt2, hmX]
      have HST := Lib.hid hst
      have HMX := Lib.hid hmX
      clear hst hmX
      generalize is[j] = t at *
      generalize ss[j] = y at *
      have hS : ∀ V, Ext Wb V → V.cell? ⟨w.heap.size, 0, none⟩ = some (.int .i64 p) ∧ V.cell? ⟨w.heap.size, 1, none⟩ = some (.int .i64 q) ∧ V.cell? ⟨w.heap.size, 2, none⟩ = some (.int .i64 g) ∧ V.cell? (cd.add j) = some (.int .i64 y) := fun V hV => by
        have a0 := (B0.ext hV).cells
        exact ⟨a0 0, a0 1, a0 2, hV.cell hcc⟩
      have hcc2 := E2.cell hcc
      by_cases hmt : m < cs.length
      · cases hf : fitB p q g cs t y
        · have HF := Lib.hid hf
          have HNX : Hid (selP p q g cs is ss (j + 1) = selP p q g cs is ss j) := by show _ = _; rw [HST.out, hf, if_neg (by simp)]
          clear hf
          go_wp2
          go_region_held3 (fun V => V.cell? ⟨w.heap.size, 0, none⟩ = some (.int .i64 p) ∧ V.cell? ⟨w.heap.size, 1, none⟩ = some (.int .i64 q) ∧ V.cell? ⟨w.heap.size, 2, none⟩ = some (.int .i64 g) ∧ V.cell? (cd.add j) = some (.int .i64 y)) (exact hS _ (by repeat (first | with_reducible assumption | with_reducible exact Ext.refl _ | with_reducible apply Ext.alloc | with_reducible apply Ext.drew | with_reducible apply Ext.drewN)))
            (first
              | (go_at_call 146; refine (isShare_any p q g t y A cs.length c cs _ hG hq2 (by omega) (by omega) (by omega) (by omega) (ha.ext (Ext.trans E (by repeat (first | with_reducible assumption | with_reducible exact Ext.refl _ | with_reducible apply Ext.alloc | with_reducible apply Ext.drew | with_reducible apply Ext.drewN)))) rfl (by omega) HCB.out).mono ?_; rintro en w3 ⟨he, hb3⟩; rw [HF.out] at he; subst he; have hx3 := Ext.trans (w := Wb) (by repeat (first | with_reducible assumption | with_reducible exact Ext.refl _ | with_reducible apply Ext.alloc | with_reducible apply Ext.drew | with_reducible apply Ext.drewN)) hb3; have hr3 := Ext.trans (w := wr) (by repeat (first | with_reducible assumption | with_reducible exact Ext.refl _ | with_reducible apply Ext.alloc | with_reducible apply Ext.drew | with_reducible apply Ext.drewN)) hb3)
              | fail)
          go_wp2
          go_roundw
          case rel => exact ⟨j + 1, m, X, x, Y, z, by omega, by go_num, rfl, rfl, hm7', by rw [HNX.out]; exact hX.ext hr3, by rw [HNX.out]; exact hY.ext hr3, hap, hx3⟩
          case measure => simp [intOf]; omega
        · have HF := Lib.hid hf
          have HNX : Hid (selP p q g cs is ss (j + 1) = ((selP p q g cs is ss j).1 ++ [t], (selP p q g cs is ss j).2 ++ [y])) := by show _ = _; rw [HST.out, hf, if_pos ⟨hmt, rfl⟩]
          clear hf
          go_wp2
          go_region_held3 (fun V => V.cell? ⟨w.heap.size, 0, none⟩ = some (.int .i64 p) ∧ V.cell? ⟨w.heap.size, 1, none⟩ = some (.int .i64 q) ∧ V.cell? ⟨w.heap.size, 2, none⟩ = some (.int .i64 g) ∧ V.cell? (cd.add j) = some (.int .i64 y)) (exact hS _ (by repeat (first | with_reducible assumption | with_reducible exact Ext.refl _ | with_reducible apply Ext.alloc | with_reducible apply Ext.drew | with_reducible apply Ext.drewN)))
            (first
              | (go_at_call 146; refine (isShare_any p q g t y A cs.length c cs _ hG hq2 (by omega) (by omega) (by omega) (by omega) (ha.ext (Ext.trans E (by repeat (first | with_reducible assumption | with_reducible exact Ext.refl _ | with_reducible apply Ext.alloc | with_reducible apply Ext.drew | with_reducible apply Ext.drewN)))) rfl (by omega) HCB.out).mono ?_; rintro en w3 ⟨he, hb3⟩; rw [HF.out] at he; subst he; have hx3 := Ext.trans (w := Wb) (by repeat (first | with_reducible assumption | with_reducible exact Ext.refl _ | with_reducible apply Ext.alloc | with_reducible apply Ext.drew | with_reducible apply Ext.drewN)) hb3; have hr3 := Ext.trans (w := wr) (by repeat (first | with_reducible assumption | with_reducible exact Ext.refl _ | with_reducible apply Ext.alloc | with_reducible apply Ext.drew | with_reducible apply Ext.drewN)) hb3)
              | fail)
          replace hX := hX.ext hr3
          replace hY := hY.ext hr3
          have hsz := hx3.size
          clear hcb
          have hsize9 : ∀ V, Ext w3 V → Wb.heap.size ≤ V.heap.size := fun V hV => by have := hV.size; omega
          have hXlow := hX.low
          have hXhigh := hX.high
          have hl0 : w3.cell? (cd.add j) = some (.int .i64 y) := hx3.cell hcc
          have hl1 : (w3.alloc (.cells #[.int .i64 t] 3)).cell? (cd.add j) = some (.int .i64 y) := (hx3.alloc _).cell hcc
          have hl2 : (w3.alloc (.cells #[.int .i64 t] 3)).drew.cell? (cd.add j) = some (.int .i64 y) := hl1
          have hl3 : w3.drew.cell? (cd.add j) = some (.int .i64 y) := hl0
          go_wp2
          go_region_law (first
              | (refine step_app1F intSl (by rfl) _ _ (by rfl) (hX.ext (by repeat (first | with_reducible assumption | with_reducible exact Ext.refl _ | with_reducible apply Ext.alloc | with_reducible apply Ext.drew | with_reducible apply Ext.drewN))) (by rfl) _ (by rfl) (by first | exact cell_lit (w := w3) rfl (by repeat (first | with_reducible assumption | with_reducible exact Ext.refl _ | with_reducible apply Ext.alloc | with_reducible apply Ext.drew | with_reducible apply Ext.drewN)) | exact cell_lit (w := w3.alloc (.cells #[.int .i64 y] 3)) (by simp) (by repeat (first | with_reducible assumption | with_reducible exact Ext.refl _ | with_reducible apply Ext.alloc | with_reducible apply Ext.drew | with_reducible apply Ext.drewN))) (by omega) (hsize9 _ (by repeat (first | with_reducible assumption | with_reducible exact Ext.refl _ | with_reducible apply Ext.alloc | with_reducible apply Ext.drew | with_reducible apply Ext.drewN))) ?_; intro X2 x2 w4 hX2 hon1 hli1; have hY1 := OwnI.only (hY.ext (by repeat (first | with_reducible assumption | with_reducible exact Ext.refl _ | with_reducible apply Ext.alloc | with_reducible apply Ext.drew | with_reducible apply Ext.drewN))) hon1 hap.symm; have hap2 : Apart (fpI X2) (fpI Y) := hap.app (hY.ext (by repeat (first | with_reducible assumption | with_reducible exact Ext.refl _ | with_reducible apply Ext.alloc | with_reducible apply Ext.drew | with_reducible apply Ext.drewN))).low hli1; have E4 := Ext.only (Ext.trans hx3 (by repeat (first | with_reducible assumption | with_reducible exact Ext.refl _ | with_reducible apply Ext.alloc | with_reducible apply Ext.drew | with_reducible apply Ext.drewN))) hon1 hXhigh; have hc4 : w4.cell? (cd.add j) = some (.int .i64 y) := E4.cell hcc; have hc5 : w4.drew.cell? (cd.add j) = some (.int .i64 y) := hc4)
              | (refine step_app1F intSl (by rfl) _ _ (by rfl) (hY1.ext (by repeat (first | with_reducible assumption | with_reducible exact Ext.refl _ | with_reducible apply Ext.alloc | with_reducible apply Ext.drew | with_reducible apply Ext.drewN))) (by rfl) _ (by rfl) (by first | exact cell_lit (w := w4) rfl (by repeat (first | with_reducible assumption | with_reducible exact Ext.refl _ | with_reducible apply Ext.alloc | with_reducible apply Ext.drew | with_reducible apply Ext.drewN)) | exact keep_cell hXlow hon1 (cell_lit (w := w3) rfl (by repeat (first | with_reducible assumption | with_reducible exact Ext.refl _ | with_reducible apply Ext.alloc | with_reducible apply Ext.drew | with_reducible apply Ext.drewN))) (Nat.le_refl _) (by simp <;> omega) | exact keep_cell hXlow hon1 (cell_lit (w := w3.alloc (.cells #[.int .i64 t] 3)) (by simp) (by repeat (first | with_reducible assumption | with_reducible exact Ext.refl _ | with_reducible apply Ext.alloc | with_reducible apply Ext.drew | with_reducible apply Ext.drewN))) (by simp) (by simp <;> omega)) (by omega) (Ext.size (w := Wb) (Ext.trans E4 (by repeat (first | with_reducible assumption | with_reducible exact Ext.refl _ | with_reducible apply Ext.alloc | with_reducible apply Ext.drew | with_reducible apply Ext.drewN)))) ?_; intro Y2 z2 w5 hY2 hon2 hli2; have E5 := Ext.only (Ext.trans E4 (by repeat (first | with_reducible assumption | with_reducible exact Ext.refl _ | with_reducible apply Ext.alloc | with_reducible apply Ext.drew | with_reducible apply Ext.drewN))) hon2 hY1.high; have hX3 := OwnI.only (hX2.ext (by repeat (first | with_reducible assumption | with_reducible exact Ext.refl _ | with_reducible apply Ext.alloc | with_reducible apply Ext.drew | with_reducible apply Ext.drewN))) hon2 hap2; have hap3 : Apart (fpI X2) (fpI Y2) := (hap2.symm.app (hX2.ext (by repeat (first | with_reducible assumption | with_reducible exact Ext.refl _ | with_reducible apply Ext.alloc | with_reducible apply Ext.drew | with_reducible apply Ext.drewN))).low hli2).symm)
              | fail)
          all_goals
            go_wp2
            go_roundw
            case rel => exact ⟨j + 1, m + 1, X2, x2, Y2, z2, by omega, by go_num, rfl, rfl, by omega, by rw [HNX.out]; exact hX3, by rw [HNX.out]; exact hY2, hap3, E5⟩
            case measure => simp [intOf]; omega
      · have HNX : Hid (selP p q g cs is ss (j + 1) = selP p q g cs is ss j) := by show _ = _; rw [HST.out, if_neg (by omega)]
        have E9 : ∀ N : Nat, Ext Wb (wr.drewN N) := fun N => E2.drewN N
        go_wp2
        go_quiet (fail)
        go_wp2
        go_roundw
        case rel => exact ⟨j + 1, m, X, x, Y, z, by omega, by go_num, rfl, rfl, hm7', by rw [HNX.out]; exact hX.ext ((Ext.refl _).drewN _), by rw [HNX.out]; exact hY.ext ((Ext.refl _).drewN _), hap, E9 _⟩
        case measure => simp [intOf]; omega
    · obtain rfl : j = is.length := by omega
      by_cases hmt : m < cs.length
      · have hv : rcV p q g cs i is ss = 0 := by unfold rcV; rw [if_pos (by omega)]
        have hk : rcK p q g cs is ss = false := by unfold rcK; simp; omega
        have HV := Lib.hid hv
        have HK := Lib.hid hk
        clear hv hk
        go_wp2
        go_ret2
        exact ⟨by rw [HV.out, HK.out]; rfl, E.trans E2⟩
      · have hsl := selP_len p q g cs is ss is.length
        have hv : rcV p q g cs i is ss = dotV (lagL q (selP p q g cs is ss is.length).1 i m) (selP p q g cs is ss is.length).2 q m := by unfold rcV; rw [if_neg (by omega), hmX]
        have hk : rcK p q g cs is ss = true := by unfold rcK; simp; omega
        have hsub := selP_sub p q g cs is ss is.length (Nat.le_refl _)
        rw [List.take_length] at hsub
        have hnd := HD.out.sublist hsub
        have hrx : ∀ y ∈ (selP p q g cs is ss is.length).1, 0 ≤ y ∧ y ≤ q - 1 := fun y hy => by have := HRI.out _ (hsub.subset hy); omega
        have hry : ∀ y ∈ (selP p q g cs is ss is.length).2, 0 ≤ y ∧ y ≤ q - 1 := fun y hy => HRS.out _ (selP_sub2 p q g cs is ss is.length (by have := HSS.out; omega) y hy)
        have HRX := Lib.hid hrx
        have HRY := Lib.hid hry
        have HND := Lib.hid hnd
        have HMX := Lib.hid hmX
        have hyl := hY.len
        have HYL := Lib.hid hyl
        have HV := Lib.hid hv
        have HK := Lib.hid hk
        clear hv hk hsub hnd hrx hry hmX hyl hsl
        generalize (selP p q g cs is ss is.length).1 = xs at *
        generalize (selP p q g cs is ss is.length).2 = ys at *
        have hS : ∀ V, Ext Wb V → V.cell? ⟨w.heap.size, 0, none⟩ = some (.int .i64 p) ∧ V.cell? ⟨w.heap.size, 1, none⟩ = some (.int .i64 q) ∧ V.cell? ⟨w.heap.size, 2, none⟩ = some (.int .i64 g) := fun V hV => by
          have a0 := (B0.ext hV).cells
          exact ⟨a0 0, a0 1, a0 2⟩
        have hlb := lagL_bd hq2 xs i m
        have HLB := Lib.hid hlb
        clear hlb
        go_wp2
        go_region_held3 (fun V => V.cell? ⟨w.heap.size, 0, none⟩ = some (.int .i64 p) ∧ V.cell? ⟨w.heap.size, 1, none⟩ = some (.int .i64 q) ∧ V.cell? ⟨w.heap.size, 2, none⟩ = some (.int .i64 g)) (exact hS _ (by repeat (first | with_reducible assumption | with_reducible exact Ext.refl _ | with_reducible apply Ext.alloc | with_reducible apply Ext.drew | with_reducible apply Ext.drewN)))
          (first
            | (go_at_call 118; refine (lagrange_any q i _ m _ xs _ (hX.ext (by repeat (first | with_reducible assumption | with_reducible exact Ext.refl _ | with_reducible apply Ext.alloc | with_reducible apply Ext.drew | with_reducible apply Ext.drewN))).rd HMX.out (by omega) hq2 (by omega) HRX.out (by omega)).mono ?_; rintro en w5 ⟨L, l5, rfl, hL, hb5⟩; have hx5 := Ext.trans (w := Wb) (by repeat (first | with_reducible assumption | with_reducible exact Ext.refl _ | with_reducible apply Ext.alloc | with_reducible apply Ext.drew | with_reducible apply Ext.drewN)) hb5; have hr5 := Ext.trans (w := wr) (by repeat (first | with_reducible assumption | with_reducible exact Ext.refl _ | with_reducible apply Ext.alloc | with_reducible apply Ext.drew | with_reducible apply Ext.drewN)) hb5)
            | (go_at_call 147; refine (dot_any _ _ m _ _ (lagL q xs i m) ys q _ (RdI.ext hL.rd (by repeat (first | with_reducible assumption | with_reducible exact Ext.refl _ | with_reducible apply Ext.alloc | with_reducible apply Ext.drew | with_reducible apply Ext.drewN))) ((hY.ext (Ext.trans hr5 (by repeat (first | with_reducible assumption | with_reducible exact Ext.refl _ | with_reducible apply Ext.alloc | with_reducible apply Ext.drew | with_reducible apply Ext.drewN)))).rd) (lagL_length q xs i m) HYL.out (by omega) hq2 (by omega) HLB.out HRY.out).mono ?_; rintro en w6 ⟨rfl, hb6⟩; have hx6 := Ext.trans (w := Wb) (by repeat (first | with_reducible assumption | with_reducible exact Ext.refl _ | with_reducible apply Ext.alloc | with_reducible apply Ext.drew | with_reducible apply Ext.drewN)) hb6)
            | fail)
        go_wp2
        go_ret2
        exact ⟨by rw [HV.out, HK.out]; rfl, E.trans hx6⟩
end Go.Proofs.Ythamimjejlicpaa
