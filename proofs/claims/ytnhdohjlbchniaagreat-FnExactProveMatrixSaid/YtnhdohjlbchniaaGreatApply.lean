/- Contracts for permuted lists: apply, compose, inverse. -/
import Derived.Test.YtnhdohjlbchniaaGreatProg
import Derived.Test.YtnhdohjlbchniaaGreatDiff
import Derived.Test.YtnhdohjlbchniaaGreatEq
namespace Go.Proofs.YtnhdohjlbchniaaGreat
open Go.RowKit

def applyL (p l : List Int) : List Int := p.map fun k => l.getD k.toNat 0
theorem applyL_length (p l : List Int) : (applyL p l).length = p.length := by simp [applyL]
theorem applyL_take {p l : List Int} {j K : Nat} (hj : j < p.length) (hK : p[j] = (K : Int)) (hl : K < l.length) : applyL (p.take (j + 1)) l = applyL (p.take j) l ++ [l[K]] := by
  rw [List.take_succ_eq_append_getElem hj, applyL, List.map_append]
  simp [applyL, hK, List.getD, hl]
theorem set_rep {pre : List Int} {j n : Nat} (x : Int) (hp : pre.length = j) (hj : j < n) : (pre ++ List.replicate (n - j) 0).set j x = (pre ++ [x]) ++ List.replicate (n - (j + 1)) 0 := by
  rw [List.set_append_right _ _ (by omega), hp, Nat.sub_self, List.append_assoc]
  congr 1
  rw [show n - j = (n - (j + 1)) + 1 by omega, List.replicate_succ, List.set_cons_zero]
  rfl

theorem allR_at {l : List Int} {lo hi : Int} {j : Nat} (h : allR l lo hi = true) (hj : j < l.length) : lo ≤ l[j] ∧ l[j] ≤ hi := allR_iff.1 h _ (List.getElem_mem hj)
theorem permB_parts {l : List Int} (h : permB l = true) : l.length ≤ 24 ∧ allR l 0 (l.length - 1) = true ∧ l.Nodup := by
  unfold permB diffB at h
  simp only [Bool.and_eq_true, decide_eq_true_eq] at h
  exact ⟨h.1, h.2.1, h.2.2⟩


set_option maxHeartbeats 1000000 in
theorem at_any (A B : Option Addr) (n c m d : Nat) (p l : List Int) (w : World) (ha : RdI w A p) (hb : RdI w B l) (hp : p.length = n) (hl : l.length = m) (hn : n ≤ 1000000) (hm : m ≤ maxLen) (hR : allR p 0 (m - 1) = true) :
    Calls Tryz.prog 64 #[.slice B m d, .slice A n c] w fun e w' => ∃ A' c', e = .returned (.slice A' n c') ∧ OwnI w' w.heap.size 3 A' n c' (applyL p l) ∧ Ext w w' := by
  unfold maxLen at hm
  subst hp hl
  have HR := Lib.hid hR
  clear hR
  go_enter Tryz.func64, Tryz.ntmps64
  go_wp2
  go_loopw [5, 11] (fun o i wr => ∃ (j : Nat) (A' : Option Addr) (c' : Nat), j ≤ p.length ∧ i = .int .i64 j ∧ o = .slice A' j c' ∧ OwnI wr w.heap.size 3 A' j c' (applyL (p.take j) l) ∧ Ext w wr) (fun _ i _ => p.length - (intOf i).toNat)
  case atStart => exact ⟨0, _, _, Nat.zero_le _, rfl, rfl, ownI_lit [] rfl rfl (Nat.le_refl _) (Nat.zero_le _), (Ext.refl w).alloc _⟩
  case round =>
    obtain ⟨j, A', c', hj, rfl, rfl, hO, hE⟩ := hrel
    by_cases hlt : j < p.length
    · obtain ⟨ad, rfl, hc⟩ := (ha.ext hE).at_ hlt
      have hr := allR_at HR.out hlt
      obtain ⟨K, hK⟩ := Int.eq_ofNat_of_zero_le hr.1
      have hKl : K < l.length := by omega
      obtain ⟨bd, rfl, hd⟩ := (hb.ext hE).at_ hKl
      rw [hK] at hc
      have HK := Lib.hid hK
      clear hK hr
      have hsz := hE.size
      go_wp2_with (at_builtin; refine wpList_app1 intSl rfl _ _ rfl hO rfl rfl (by omega) hsz ?_; intro A2 c2 w2 hO2 hb2)
      rw [← applyL_take hlt HK.out hKl] at hO2
      go_roundw
      case rel => exact ⟨j + 1, A2, c2, by omega, by go_num, rfl, hO2, hE.then hb2 (Nat.le_refl _)⟩
      case measure => simp [intOf]; omega
    · obtain rfl : j = p.length := by omega
      rw [List.take_length] at hO
      go_wp2
      go_ret
      exact ⟨_, _, rfl, hO, hE⟩
end Go.Proofs.YtnhdohjlbchniaaGreat
