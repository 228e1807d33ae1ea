/- Contracts for MatrixOf: the program's and the reference's. -/
import Derived.Test.YticimniegecfeaaProg
import Derived.Test.YticimniegecfeaaMemX
import Derived.Test.YticimniegecfeaaApplyC
namespace Go.Proofs.Yticimniegecfeaa
open Go.RowKit

def unitL (n k : Nat) : List Int := (List.replicate n 0).set k 1
theorem unitL_length (n k : Nat) : (unitL n k).length = n := by simp [unitL]
def matAt (p : List Int) (j : Nat) : List (List Int) := (p.take j).map fun k => unitL p.length k.toNat
theorem matAt_succ {p : List Int} {j K : Nat} (hj : j < p.length) (hK : p[j] = (K : Int)) : matAt p (j + 1) = matAt p j ++ [unitL p.length K] := by
  rw [matAt, List.take_succ_eq_append_getElem hj, List.map_append]
  simp [matAt, hK]
def matL (p : List Int) : List (List Int) := p.map fun k => unitL p.length k.toNat
theorem matAt_all (p : List Int) : matAt p p.length = matL p := by simp [matAt, matL]
theorem matAt_length (p : List Int) (j : Nat) (hj : j ≤ p.length) : (matAt p j).length = j := by simp [matAt]; omega
def matR (p : List Int) : Option (List (List Int)) := if permB p then some (matL p) else none
theorem tot_mat (p : List Int) : tot (matL p) = p.length * p.length := by
  have h : (matL p).map List.length = List.replicate p.length p.length := by
    simp [matL, unitL, List.map_map, Function.comp_def, List.map_const']
  rw [tot, h]; simp
theorem matR_bd (p : List Int) : ((matR p).getD []).length ≤ 100000 ∧ tot ((matR p).getD []) ≤ 100000 := by
  unfold matR
  split
  · rename_i h
    obtain ⟨h24, _⟩ := permB_parts h
    rw [Option.getD_some, tot_mat]
    have : p.length * p.length ≤ 24 * 24 := Nat.mul_le_mul h24 h24
    refine ⟨?_, by omega⟩
    simp [matL]; omega
  · simp [tot]

theorem OwnII.lit0 (w : World) {base : Nat} (h : base ≤ w.heap.size) : OwnII (w.alloc (.cells #[] 22)) base (some ⟨w.heap.size, 0, none⟩) 0 0 [w.heap.size] [] :=
  ⟨[], ⟨rfl, .inr ⟨w.heap.size, 0, #[], rfl, h, heap_alloc_new w _, Nat.le_refl _, Nat.zero_le _, rfl, rfl⟩⟩, rfl, fun i h => absurd h (by simp), by simp [rowsFp], by simp [rowsFp, fpI]⟩
/-- A new row with one 1, beside the rows that are there. -/
theorem matRow {wr w2 : World} {b0 j c' n K : Nat} {A' : Option Addr} {P : List Nat} {ls : List (List Int)} (hII : OwnII wr b0 A' j c' P ls) (hlow : Low P wr.heap.size)
    (hO : OwnI w2 wr.heap.size 3 (some ⟨wr.heap.size, 0, none⟩) n n (List.replicate n 0)) (hE : Ext wr w2) (hb : b0 ≤ wr.heap.size) :
    OwnII (w2.setCell ⟨wr.heap.size, K, none⟩ (.int .i64 1)) b0 A' j c' P ls ∧ OwnI (w2.setCell ⟨wr.heap.size, K, none⟩ (.int .i64 1)) b0 3 (some ⟨wr.heap.size, 0, none⟩) n n (unitL n K) ∧
    Apart (fpI (some (⟨wr.heap.size, 0, none⟩ : Addr))) P ∧ b0 ≤ (w2.setCell ⟨wr.heap.size, K, none⟩ (.int .i64 1)).heap.size ∧ Ext wr (w2.setCell ⟨wr.heap.size, K, none⟩ (.int .i64 1)) := by
  have hE2 : Ext wr (w2.setCell ⟨wr.heap.size, K, none⟩ (.int .i64 1)) := hE.setCell (p := ⟨wr.heap.size, K, none⟩) (Nat.le_refl _) _
  exact ⟨hII.ext hE2, (hO.set (j := K) 1).more hb, Apart.of_high hlow (hO.high), Nat.le_trans hb hE2.size, hE2⟩

set_option maxRecDepth 100000 in
set_option maxHeartbeats 2000000 in
theorem iMatrixOf_any (A : Option Addr) (n c : Nat) (p : List Int) (w : World) (ha : RdI w A p) (hl : p.length = n) (_hn : n ≤ 1048576) (hc : n ≤ c ∧ c ≤ maxLen) :
    Calls Try.prog 71 #[.slice A n c] w fun e w' => ResSS w (matR p) e w' := by
  cases h : permB p
  · have hr : matR p = none := by simp [matR, h]
    rw [hr]; clear hr
    go_enter Try.func71, Try.ntmps71
    go_wp2_with fail
    refine (iIsPermutation_b _ _ _ p _ ha hl hc.1 hc.2).mono ?_
    rintro e w1 ⟨he, hE1⟩
    rw [h] at he; subst he
    go_wp2
    go_ret2
    exact ⟨_, _, _, _, rfl, OwnII.nil _ _, hE1⟩
  · have hr : matR p = some (matL p) := by simp [matR, h]
    rw [hr]; clear hr
    obtain ⟨h24, hR⟩ := permB_R h hl
    subst hl
    have H := Lib.hid h
    have HR := Lib.hid hR
    clear h hR
    go_enter Try.func71, Try.ntmps71
    go_wp2_with fail
    refine (iIsPermutation_b _ _ _ p _ ha rfl hc.1 hc.2).mono ?_
    rintro e w1 ⟨he, hE1⟩
    rw [H.out] at he; subst he
    go_wp2
    have ha := ha.ext hE1
    have hz1 := hE1.size
    go_loopw [4, 14] (fun o i wr => ∃ (j : Nat) (A' : Option Addr) (c' : Nat) (P : List Nat), j ≤ p.length ∧ i = .int .i64 j ∧ o = .slice A' j c' ∧ OwnII wr w1.heap.size A' j c' P (matAt p j) ∧ Ext w1 wr) (fun _ i _ => p.length - (intOf i).toNat)
    case atStart => exact ⟨0, _, 0, _, Nat.zero_le _, rfl, rfl, by simpa [matAt] using OwnII.lit0 w1 (Nat.le_refl _), (Ext.refl _).alloc _⟩
    case round =>
      obtain ⟨j, A', c', P, hj, rfl, rfl, hII, hE⟩ := hrel
      by_cases hlt : j < p.length
      · obtain ⟨K, hK, hKn, _⟩ := permD HR.out hlt
        obtain ⟨ad, hA, hcell⟩ := (ha.ext hE).at_ hlt
        subst hA
        rw [hK] at hcell
        have hms := matAt_succ hlt hK
        have HMS := Lib.hid hms
        clear hms hK
        have hwz := hE.size
        have hlow := hII.low
        go_wp2_with (first | (at_make; refine wpList_mkI intSl rfl _ _ rfl _ _ _ _ p.length rfl rfl rfl rfl (by omega) wr.heap.size (Nat.le_refl _) ?_; intro w2 hO2 hE2 hz2; obtain ⟨hu1, hu2⟩ := hO2.at0 K (by simp; omega); have hr := matRow hII hlow hO2 hE2 hwz (K := K); have hr1 := hr.1; have hr2 := hr.2.1; have hr3 := hr.2.2.1; have hr4 := hr.2.2.2.1; have hr5 := hr.2.2.2.2; clear hr) | (at_builtin; refine wpList_app1Sh rfl _ _ rfl hr1 hr2 hr3 rfl rfl (by simp) (by omega) hr4 ?_; intro A3 c3 P3 w5 hII3 hon3))
        rw [← HMS.out] at hII3
        go_roundw
        case rel => exact ⟨j + 1, A3, c3, P3, by omega, by go_num, rfl, hII3, (hE.trans hr5).only hon3 (fun b hb => hII.high b (hII.fpA b hb))⟩
        case measure => simp [intOf]; omega
      · obtain rfl : j = p.length := by omega
        rw [matAt_all] at hII
        go_wp2
        go_ret2
        exact ⟨_, _, _, _, rfl, hII.more hz1, hE1.trans hE⟩
end Go.Proofs.Yticimniegecfeaa
