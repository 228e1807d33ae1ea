/- Contracts for ChainOf and CheckChain: the program's and the reference's. -/
import Derived.Test.YteohpelbkmdlmaaProg
import Derived.Test.YteohpelbkmdlmaaLab
namespace Go.Proofs.Yteohpelbkmdlmaa
open Go.RowKit

def chW : ByteArray := ⟨#[99, 104, 97, 105, 110]⟩
/-- The chain's value behind j receipts. -/
def chAt (r : List Int) : Nat → Int
  | 0 => 0
  | j + 1 => hInt (labL chW [chAt r j, j, r.getD j 0])
def chL (r : List Int) (j : Nat) : List Int := (List.range j).map fun i => chAt r (i + 1)
theorem chL_succ (r : List Int) (j : Nat) : chL r j ++ [chAt r (j + 1)] = chL r (j + 1) := by simp [chL, List.range_succ]
theorem chL_length (r : List Int) (j : Nat) : (chL r j).length = j := by simp [chL]
theorem chAt_bd (r : List Int) : ∀ j, 0 ≤ chAt r j ∧ chAt r j ≤ 4611686018427387903
  | 0 => by simp [chAt]
  | j + 1 => hInt_bd _
def recB (r : List Int) : Bool := decide (r.length ≤ 24) && allR r 0 4611686018427387903
def chR (r : List Int) : Option (List Int) := if recB r then some (chL r r.length) else none
theorem chR_bd (r : List Int) : ((chR r).getD []).length ≤ 100000 := by
  unfold chR
  split
  · rename_i h
    simp only [recB, Bool.and_eq_true, decide_eq_true_eq] at h
    rw [Option.getD_some, chL_length]; omega
  · simp

set_option maxHeartbeats 400000 in
theorem dReceipts_any (A : Option Addr) (n c : Nat) (l : List Int) (w : World) (ha : RdI w A l) (hl : l.length = n) (hn : n ≤ maxLen) :
    Calls Try.prog 123 #[.slice A n c] w fun e w' => e = .returned (.bool (recB l)) ∧ w = w' := by
  unfold maxLen at hn
  subst hl
  by_cases h : l.length ≤ 24
  · have hv : recB l = allR l 0 4611686018427387903 := by unfold recB; rw [decide_eq_true h, Bool.true_and]
    rw [hv]; clear hv
    have hz : (l.length : Int) ≤ 24 := by omega
    go_enter Try.func123, Try.ntmps123
    go_wp2_with fail
    refine (l1All_any _ _ _ l _ _ _ ha rfl (by unfold maxLen; omega)).mono ?_
    rintro e w1 ⟨rfl, rfl⟩
    go_wp2
    go_ret
    exact ⟨rfl, rfl⟩
  · have hv : recB l = false := by unfold recB; rw [decide_eq_false h]; rfl
    rw [hv]; clear hv
    have hz : ¬ (l.length : Int) ≤ 24 := by omega
    go_enter Try.func123, Try.ntmps123
    go_wp2
    go_ret
    exact ⟨rfl, rfl⟩

set_option maxHeartbeats 400000 in
theorem areReceipts_any (A : Option Addr) (n c : Nat) (l : List Int) (w : World) (ha : RdI w A l) (hl : l.length = n) (hn : n ≤ maxLen) :
    Calls Try.prog 125 #[.slice A n c] w fun e w' => e = .returned (.bool (recB l)) ∧ Ext w w' := by
  have hf : ∀ args w, (callFunc 210 args).run Try.prog w = .ok (.enter 210 args) w := fun args w => by kernel_rfl
  unfold maxLen at hn
  subst hl
  by_cases h : l.length ≤ 24
  · have hv : recB l = allR l 0 4611686018427387903 := by unfold recB; rw [decide_eq_true h, Bool.true_and]
    rw [hv]; clear hv
    have hz : (l.length : Int) ≤ 24 := by omega
    go_enter Try.func125, Try.ntmps125
    go_wp2_with fail
    refine (areAll_any _ _ _ l _ _ _ _ ha rfl (by unfold maxLen; omega) (isDigest_ans _ l)).mono ?_
    rintro e w1 ⟨rfl, hE⟩
    go_wp2
    go_ret
    exact ⟨rfl, hE⟩
  · have hv : recB l = false := by unfold recB; rw [decide_eq_false h]; rfl
    rw [hv]; clear hv
    have hz : ¬ (l.length : Int) ≤ 24 := by omega
    go_enter Try.func125, Try.ntmps125
    go_wp2
    go_ret
    exact ⟨rfl, Ext.refl _⟩

theorem ch_lit (r : List Int) (hr : allR r 0 4611686018427387903 = true) {j : Nat} (hj : j < r.length) (hl : r.length ≤ 24) : allR [chAt r j, (j : Int), r[j]] 0 4611686018427387903 = true := by
  rw [allR_iff]
  intro x hx
  have h1 := chAt_bd r j
  have h2 := allR_iff.1 hr _ (List.getElem_mem hj)
  simp only [List.mem_cons, List.not_mem_nil, or_false] at hx
  rcases hx with rfl | rfl | rfl
  · exact h1
  · omega
  · exact h2

set_option maxRecDepth 100000 in
set_option maxHeartbeats 1000000 in
theorem dChain_any (A : Option Addr) (n c : Nat) (r : List Int) (w : World) (ha : RdI w A r) (hl : r.length = n) (h : recB r = true) :
    Calls Try.prog 124 #[.slice A n c] w fun e w' => ∃ A' c', e = .returned (.slice A' n c') ∧ OwnI w' w.heap.size 3 A' n c' (chL r n) ∧ Ext w w' := by
  simp only [recB, Bool.and_eq_true, decide_eq_true_eq] at h
  obtain ⟨h24, hR⟩ := h
  subst hl
  have HR := Lib.hid hR
  clear hR
  go_enter Try.func124, Try.ntmps124
  go_wp2
  go_loopw [3, 4, 9] (fun v s i wr => ∃ (j : Nat) (A' : Option Addr) (c' : Nat), j ≤ r.length ∧ i = .int .i64 j ∧ s = .int .i64 (chAt r j) ∧ v = .slice A' j c' ∧ OwnI wr w.heap.size 3 A' j c' (chL r j) ∧ Ext w wr) (fun _ _ i _ => r.length - (intOf i).toNat)
  case atStart => exact ⟨0, _, _, Nat.zero_le _, rfl, rfl, rfl, OwnI.nil _ _ _, Ext.refl _⟩
  case round =>
    obtain ⟨j, A', c', hj, rfl, rfl, rfl, hO, hE⟩ := hrel
    by_cases hlt : j < r.length
    · obtain ⟨ad, rfl, hc⟩ := (ha.ext hE).at_ hlt
      have hlit := ch_lit r HR.out hlt h24
      have hs : chAt r (j + 1) = hInt (labL chW [chAt r j, j, r[j]]) := by rw [chAt, List.getD, List.getElem?_eq_getElem hlt]; rfl
      have hsu := chL_succ r j
      have hlb := chAt_bd r (j + 1)
      generalize r[j] = x at *
      generalize chAt r j = y at *
      have hO3 : OwnI (wr.alloc (.cells #[.int .i64 y, .int .i64 j, .int .i64 x] 3)) wr.heap.size 3 (some ⟨wr.heap.size, 0, none⟩) 3 3 [y, (j : Int), x] :=
        ownI_lit (n := 3) [y, (j : Int), x] rfl rfl (Nat.le_refl _) (by unfold maxLen; simp)
      have HL := Lib.hid hlit
      have HS := Lib.hid hs
      have HSU := Lib.hid hsu
      clear hlit hs hsu
      go_wp2_with fail
      refine (hLabelled_any chW _ 3 _ [y, (j : Int), x] _ (by decide) hO3.rd rfl (by omega) HL.out).mono ?_
      rintro e w2 ⟨he, hE2⟩
      rw [← HS.out] at he; subst he
      have hE3 : Ext w w2 := hE.trans (((Ext.refl wr).alloc _).trans hE2)
      have hO4 := hO.ext (((Ext.refl wr).alloc _).trans hE2)
      have hsz := hE3.size
      go_wp2_with (at_builtin; refine wpList_app1 intSl rfl _ _ rfl hO4 rfl rfl (by omega) hsz ?_; intro A2 c2 w4 hO2 hb2)
      rw [HSU.out] at hO2
      go_roundw
      case rel => exact ⟨j + 1, A2, c2, by omega, by go_num, rfl, rfl, hO2, hE3.then hb2 (Nat.le_refl _)⟩
      case measure => simp [intOf]; omega
    · obtain rfl : j = r.length := by omega
      go_wp2
      go_ret
      exact ⟨_, _, rfl, hO, hE⟩

set_option maxHeartbeats 1000000 in
theorem sChainOf_any (A : Option Addr) (n c : Nat) (r : List Int) (w : World) (ha : RdI w A r) (hl : r.length = n) (hn : n ≤ 1048576) (_hc : n ≤ c ∧ c ≤ maxLen) :
    Calls Try.prog 32 #[.slice A n c] w fun e w' => ResI 3 w (chR r) e w' := by
  cases h : recB r
  · have hr : chR r = none := by simp [chR, h]
    rw [hr]; clear hr
    go_enter Try.func32, Try.ntmps32
    go_wp2_with fail
    refine (dReceipts_any _ _ _ r _ ha hl (by unfold maxLen; omega)).mono ?_
    rintro e w1 ⟨he, rfl⟩
    rw [h] at he; subst he
    go_wp2
    go_ret2
    exact ⟨_, _, _, rfl, OwnI.nil _ _ _, Ext.refl _⟩
  · have hr : chR r = some (chL r n) := by simp [chR, h, hl]
    rw [hr]; clear hr
    have H := Lib.hid h
    clear h
    go_enter Try.func32, Try.ntmps32
    go_wp2_with fail
    refine (dReceipts_any _ _ _ r _ ha hl (by unfold maxLen; omega)).mono ?_
    rintro e w1 ⟨he, rfl⟩
    rw [H.out] at he; subst he
    go_wp2_with fail
    refine (dChain_any _ _ _ r _ ha hl H.out).mono ?_
    rintro e w2 ⟨A', c', rfl, hO, hE⟩
    go_wp2
    go_ret2
    exact ⟨_, _, _, rfl, hO, hE⟩

set_option maxRecDepth 100000 in
set_option maxHeartbeats 1000000 in
theorem iChainOf_any (A : Option Addr) (n c : Nat) (r : List Int) (w : World) (ha : RdI w A r) (hl : r.length = n) (hn : n ≤ 1048576) (_hc : n ≤ c ∧ c ≤ maxLen) :
    Calls Try.prog 33 #[.slice A n c] w fun e w' => ResI 3 w (chR r) e w' := by
  cases h : recB r
  · have hr : chR r = none := by simp [chR, h]
    rw [hr]; clear hr
    go_enter Try.func33, Try.ntmps33
    go_wp2_with fail
    refine (areReceipts_any _ _ _ r _ ha hl (by unfold maxLen; omega)).mono ?_
    rintro e w1 ⟨he, hE⟩
    rw [h] at he; subst he
    go_wp2
    go_ret2
    exact ⟨_, _, _, rfl, OwnI.nil _ _ _, hE⟩
  · have hr : chR r = some (chL r n) := by simp [chR, h, hl]
    rw [hr]; clear hr
    have H := Lib.hid h
    simp only [recB, Bool.and_eq_true, decide_eq_true_eq] at h
    obtain ⟨h24, hR⟩ := h
    subst hl
    have HR := Lib.hid hR
    clear hR
    go_enter Try.func33, Try.ntmps33
    go_wp2_with fail
    refine (areReceipts_any _ _ _ r _ ha rfl (by unfold maxLen; omega)).mono ?_
    rintro e w1 ⟨he, hE1⟩
    rw [H.out] at he; subst he
    go_wp2
    go_loopw [4, 5, 14] (fun v s i wr => ∃ (j : Nat) (A' : Option Addr) (c' : Nat), j ≤ r.length ∧ i = .int .i64 j ∧ s = .int .i64 (chAt r j) ∧ v = .slice A' j c' ∧ OwnI wr w1.heap.size 3 A' j c' (chL r j) ∧ Ext w1 wr) (fun _ _ i _ => r.length - (intOf i).toNat)
    case atStart => exact ⟨0, _, _, Nat.zero_le _, rfl, rfl, rfl, ownI_lit [] rfl rfl (Nat.le_refl _) (Nat.zero_le _), (Ext.refl _).alloc _⟩
    case round =>
      obtain ⟨j, A', c', hj, rfl, rfl, rfl, hO, hE⟩ := hrel
      by_cases hlt : j < r.length
      · obtain ⟨ad, rfl, hc⟩ := (ha.ext (hE1.trans hE)).at_ hlt
        have hlit := ch_lit r HR.out hlt h24
        have hs : chAt r (j + 1) = hInt (labL chW [chAt r j, j, r[j]]) := by rw [chAt, List.getD, List.getElem?_eq_getElem hlt]; rfl
        have hsu := chL_succ r j
        have hlb := chAt_bd r (j + 1)
        generalize r[j] = x at *
        generalize chAt r j = y at *
        have hO3 : OwnI (wr.alloc (.cells #[.int .i64 y, .int .i64 j, .int .i64 x] 3)) wr.heap.size 3 (some ⟨wr.heap.size, 0, none⟩) 3 3 [y, (j : Int), x] :=
          ownI_lit (n := 3) [y, (j : Int), x] rfl rfl (Nat.le_refl _) (by unfold maxLen; simp)
        have hok : hlOk chW [y, (j : Int), x] = true := by unfold hlOk; rw [hlit]; rfl
        have hval : hlVal chW [y, (j : Int), x] = chAt r (j + 1) := by rw [hlVal, if_pos hok, hs]
        have HS := Lib.hid hval
        have HSU := Lib.hid hsu
        have HOK := Lib.hid hok
        clear hlit hs hsu hok hval
        go_wp2_with fail
        refine (iHashLabelled_any chW _ 3 _ [y, (j : Int), x] _ hO3.rd rfl (by omega) (by decide)).mono ?_
        rintro e w2 ⟨he, hE2⟩
        rw [HS.out, HOK.out] at he; subst he
        have hE3 : Ext w1 w2 := hE.trans (((Ext.refl wr).alloc _).trans hE2)
        have hO4 := hO.ext (((Ext.refl wr).alloc _).trans hE2)
        have hsz := hE3.size
        go_wp2_with (at_builtin; refine wpList_app1 intSl rfl _ _ rfl hO4 rfl rfl (by omega) hsz ?_; intro A2 c2 w4 hO2 hb2)
        rw [HSU.out] at hO2
        go_roundw
        case rel => exact ⟨j + 1, A2, c2, by omega, by go_num, rfl, rfl, hO2, hE3.then hb2 (Nat.le_refl _)⟩
        case measure => simp [intOf]; omega
      · obtain rfl : j = r.length := by omega
        go_wp2
        go_ret2
        exact ⟨_, _, _, rfl, hO.more hE1.size, hE1.trans hE⟩
end Go.Proofs.Yteohpelbkmdlmaa
