/- Contracts for polynomials: products. -/
import Derived.Test.YtnhdohjlbchniaaProg
import Derived.Test.YtnhdohjlbchniaaPoly2
import Derived.BigRegion
namespace Go.Proofs.Ytnhdohjlbchniaa
open Go.RowKit

def mulV (q : Int) (f g : List Int) : List Int := if f.length = 0 ∨ g.length = 0 then [] else mulOut q f g f.length
theorem mulIn_succ {q a : Int} {g o : List Int} {i k : Nat} {y b : Int} (hy : (mulIn q a g i o k).getD (i + k) 0 = y) (hb : g.getD k 0 = b) : (mulIn q a g i o k).set (i + k) ((y + a * b) % q) = mulIn q a g i o (k + 1) := by rw [mulIn, hy, hb]
theorem mod_in (q y t : Int) : (y + t % q) % q = (y + t) % q := by rw [Int.add_comm, Int.emod_add_emod, Int.add_comm]
set_option maxRecDepth 100000 in
set_option maxHeartbeats 4000000 in
theorem mulPolys_any (q : Int) (A B : Option Addr) (n c m d : Nat) (f g : List Int) (w : World) (rf : RdI w A f) (hl : f.length = n) (hn : n ≤ 24) (rg : RdI w B g) (hm : g.length = m) (hm2 : m ≤ 24) (hq : 2 ≤ q) (hq2 : q ≤ 2000000000) (hf : ∀ y ∈ f, 0 ≤ y ∧ y ≤ q - 1) (hg : ∀ y ∈ g, 0 ≤ y ∧ y ≤ q - 1) :
    Calls Try.prog 123 #[.int .i64 q, .slice A n c, .slice B m d] w fun e w' => ∃ A' n' c', e = .returned (.slice A' n' c') ∧ OwnI w' w.heap.size 3 A' n' c' (mulV q f g) ∧ Ext w w' := by
  by_cases hf0 : n = 0
  · have hv : mulV q f g = [] := by rw [mulV, if_pos (.inl (by omega))]
    rw [hv]
    subst hf0
    clear hf hg hv hl hm rf rg
    go_enter Try.func123, Try.ntmps123
    go_wp2
    go_ret
    exact ⟨_, _, _, rfl, OwnI.nil _ _ _, Ext.refl _⟩
  by_cases hg0 : m = 0
  · have hv : mulV q f g = [] := by rw [mulV, if_pos (.inr (by omega))]
    rw [hv]
    subst hg0
    have hn1 : ((n : Int) == 0) = false := by simp; omega
    clear hf hg hv hl hm rf rg
    go_enter Try.func123, Try.ntmps123
    go_wp2
    go_ret
    exact ⟨_, _, _, rfl, OwnI.nil _ _ _, Ext.refl _⟩
  have hv : mulV q f g = mulOut q f g f.length := by rw [mulV, if_neg (by omega)]
  rw [hv]
  subst hl hm
  obtain ⟨L, hL⟩ : ∃ L, f.length + g.length - 1 = L := ⟨_, rfl⟩
  have hLi : (f.length : Int) + g.length - 1 = (L : Int) := by omega
  have hL3 : L ≤ 50 := by omega
  have hL4 : L + 1 = f.length + g.length := by omega
  have HL := Lib.hid hL
  have HL4 := Lib.hid hL4
  have HLi := Lib.hid hLi
  have HF := Lib.hid hf
  have HG := Lib.hid hg
  have hq0 : (q == 0) = false := by simp; omega
  have hn1 : ((f.length : Int) == 0) = false := by rw [beq_eq_false_iff_ne]; omega
  have hm1 : ((g.length : Int) == 0) = false := by rw [beq_eq_false_iff_ne]; omega
  clear hL hLi hL4 hv hf hg hf0 hg0
  go_enter Try.func123, Try.ntmps123
  go_wp2_with (at_make; refine wpList_mkI intSl rfl _ _ rfl _ _ _ _ L rfl rfl HLi.out HLi.out (by omega) w.heap.size (Nat.le_refl _) ?_; intro w1 hO hE hz)
  rw [show List.replicate L (0 : Int) = mulOut q f g 0 by rw [mulOut, HL.out]] at hO
  rw [HLi.out]
  go_loopw [29] (fun i wr => ∃ j : Nat, j ≤ f.length ∧ i = .int .i64 j ∧ OwnI wr w.heap.size 3 (some ⟨w.heap.size, 0, none⟩) L L (mulOut q f g j) ∧ Ext w wr) (fun i _ => f.length - (intOf i).toNat)
  case atStart => exact ⟨0, Nat.zero_le _, rfl, hO, hE⟩
  case round =>
    clear hO hE hz
    obtain ⟨j, hj, rfl, hO, hE⟩ := hrel
    by_cases hj2 : j < f.length
    · obtain ⟨ad, rfl, hca⟩ := (rf.ext hE).at_ hj2
      have ha := HF.out _ (List.getElem_mem hj2)
      have HA := Lib.hid (getD_get hj2)
      generalize f[j] = a at *
      go_wp2
      go_loopw [36] (fun i wr => ∃ k : Nat, k ≤ g.length ∧ i = .int .i64 k ∧ OwnI wr w.heap.size 3 (some ⟨w.heap.size, 0, none⟩) L L (mulIn q a g j (mulOut q f g j) k) ∧ Ext w wr) (fun i _ => g.length - (intOf i).toNat)
      case atStart => exact ⟨0, Nat.zero_le _, rfl, hO, hE⟩
      case round =>
        clear hO hE hca
        obtain ⟨k, hk, rfl, hO, hE⟩ := hrel
        by_cases hk2 : k < g.length
        · obtain ⟨bd, rfl, hcb⟩ := (rg.ext hE).at_ hk2
          have hb := HG.out _ (List.getElem_mem hk2)
          have HB := Lib.hid (getD_get hk2)
          have hjl : j + k < (mulIn q a g j (mulOut q f g j) k).length := by rw [mulIn_length, mulOut_length]; omega
          have hy := mulIn_bd (show 0 < q by omega) a g j (mulOut_bd (show 0 < q by omega) f g j) k _ (List.getElem_mem hjl)
          have HY := Lib.hid (getD_get hjl)
          have hjk : j + k < L := by have := HL4.out; omega
          obtain ⟨hcj, hfj⟩ := hO.at0 (j + k) hjl
          generalize g[k] = b at *
          generalize (mulIn q a g j (mulOut q f g j) k)[j + k] = y at *
          have hO2 := hO.set (j := j + k) ((y + a * b % q) % q)
          rw [mod_in, mulIn_succ HY.out HB.out] at hO2
          have hab := intmul_bd a b ha.1 hb.1 (by omega) (by omega)
          have hp := Int.emod_lt_of_pos (a * b) (show 0 < q by omega)
          have hp2 := Int.emod_nonneg (a * b) (show q ≠ 0 by omega)
          have hidx : ((j : Int) + (k : Int)).toNat = j + k := by omega
          clear hjl
          go_wp2
          go_region
          go_wp2
          go_roundw
          case rel => exact ⟨k + 1, by omega, by go_num, hO2, (hE.setCell (p := ⟨w.heap.size, j + k, none⟩) (Nat.le_refl _) _).drew⟩
          case measure => simp [intOf]; omega
        · obtain rfl : k = g.length := by omega
          go_wp2
          go_roundw
          case rel => exact ⟨j + 1, by omega, by go_num, by rw [mulOut, HA.out]; exact hO, hE⟩
          case measure => simp [intOf]; omega
    · obtain rfl : j = f.length := by omega
      go_wp2
      go_ret
      exact ⟨_, _, _, rfl, hO, hE⟩
end Go.Proofs.Ytnhdohjlbchniaa
