/- Contracts for PermuteCiphers: the program's and the reference's. -/
import Derived.Test.YteohpelbkmdlmaaProg
import Derived.Test.YteohpelbkmdlmaaCiph
import Derived.Test.YteohpelbkmdlmaaApplyC
import Derived.Test.YteohpelbkmdlmaaCyc2
namespace Go.Proofs.Yteohpelbkmdlmaa
open Go.RowKit

def permC (p : List Int) (l : List (Int × Int)) : List (Int × Int) := p.map fun k => l.getD k.toNat (0, 0)
theorem permC_length (p : List Int) (l : List (Int × Int)) : (permC p l).length = p.length := by simp [permC]
theorem permC_take {p : List Int} {l : List (Int × Int)} {j K : Nat} (hj : j < p.length) (hK : p[j] = (K : Int)) (hl : K < l.length) : permC (p.take (j + 1)) l = permC (p.take j) l ++ [l[K]] := by
  rw [List.take_succ_eq_append_getElem hj, permC, List.map_append]
  simp [permC, hK, List.getD, hl]
theorem set_repC {pre : List (Int × Int)} {j n : Nat} (x : Int × Int) (hp : pre.length = j) (hj : j < n) : (pre ++ List.replicate (n - j) (0, 0)).set j x = (pre ++ [x]) ++ List.replicate (n - (j + 1)) (0, 0) := by
  rw [List.set_append_right _ _ (by omega), hp, Nat.sub_self, List.append_assoc]
  congr 1
  rw [show n - j = (n - (j + 1)) + 1 by omega, List.replicate_succ, List.set_cons_zero]
  rfl
def pcR (p : List Int) (l : List (Int × Int)) : Option (List (Int × Int)) := if permB p && decide (p.length = l.length) then some (permC p l) else none
theorem pcR_bd (p : List Int) (l : List (Int × Int)) : ((pcR p l).getD []).length ≤ 100000 := by
  unfold pcR
  split
  · rename_i h
    simp only [Bool.and_eq_true] at h
    rw [Option.getD_some, permC_length]
    have := (permB_parts h.1).1
    omega
  · simp
/-- A result of the make ([]Cipher, bool). -/
def ResC (w : World) (r : Option (List (Int × Int))) (e : Ending) (w' : World) : Prop :=
  ∃ (A : Option Addr) (n c : Nat), e = .returned (.tuple #[.slice A n c, .bool r.isSome]) ∧ OwnC w' w.heap.size 117 A n c (r.getD []) ∧ Ext w w'

set_option maxHeartbeats 1000000 in
theorem mCiphers_any (A B : Option Addr) (n c m d : Nat) (p : List Int) (l : List (Int × Int)) (w : World) (ha : RdI w A p) (hb : RdC w B l) (hp : p.length = n) (hl : l.length = m) (hn : n ≤ 1000000) (hm : m ≤ maxLen) (hR : allR p 0 (m - 1) = true) :
    Calls Try.prog 127 #[.slice A n c, .slice B m d] w fun e w' => ∃ A' c', e = .returned (.slice A' n c') ∧ OwnC w' w.heap.size 117 A' n c' (permC p l) ∧ Ext w w' := by
  unfold maxLen at hm
  subst hp hl
  have HR := Lib.hid hR
  clear hR
  go_enter Try.func127, Try.ntmps127
  go_wp2_with (at_make; refine wpList_mkC cipherSl rfl _ _ rfl _ _ _ _ p.length rfl rfl rfl rfl (by omega) w.heap.size (Nat.le_refl _) ?_; intro w1 hO hE hz)
  go_loopw [13] (fun i wr => ∃ j : Nat, j ≤ p.length ∧ i = .int .i64 j ∧ OwnC wr w.heap.size 117 (some ⟨w.heap.size, 0, none⟩) p.length p.length (permC (p.take j) l ++ List.replicate (p.length - j) (0, 0)) ∧ Ext w wr) (fun i _ => p.length - (intOf i).toNat)
  case atStart => exact ⟨0, Nat.zero_le _, rfl, by simpa [permC] using hO, hE⟩
  case round =>
    clear hO hE hz
    obtain ⟨j, hj, rfl, hO, hE⟩ := hrel
    by_cases hlt : j < p.length
    · obtain ⟨ad, rfl, hc⟩ := (ha.ext hE).at_ hlt
      have hr := allR_at HR.out hlt
      obtain ⟨K, hK⟩ := Int.eq_ofNat_of_zero_le hr.1
      have hKl : K < l.length := by omega
      obtain ⟨bd, rfl, hd, he⟩ := (hb.ext hE).at_ hKl
      obtain ⟨h1, h2, h3⟩ := hO.at0 j (by rw [List.length_append, permC_length, List.length_take, List.length_replicate]; omega)
      have hf1 := h3 (j * 2)
      have hf2 := h3 (j * 2 + 1)
      have hO' := hO.set j l[K].1 l[K].2
      rw [set_repC _ (by rw [permC_length, List.length_take]; omega) hlt, ← permC_take hlt hK hKl] at hO'
      rw [hK] at hc
      have HK := Lib.hid hK
      clear hK hr h3
      go_wp2
      go_roundw
      case rel => exact ⟨j + 1, by omega, by go_num, hO', (hE.setCell (p := ⟨w.heap.size, j * 2, none⟩) (Nat.le_refl _) _).setCell (p := ⟨w.heap.size, j * 2 + 1, none⟩) (Nat.le_refl _) _⟩
      case measure => simp [intOf]; omega
    · obtain rfl : j = p.length := by omega
      rw [List.take_length, Nat.sub_self, List.replicate_zero, List.append_nil] at hO
      go_wp2
      go_ret
      exact ⟨_, _, rfl, hO, hE⟩

set_option maxHeartbeats 1000000 in
theorem sPermuteCiphers_any (A : Option Addr) (n c : Nat) (p : List Int) (B : Option Addr) (m d : Nat) (l : List (Int × Int)) (w : World) (ha : RdI w A p) (hp : p.length = n) (hn : n ≤ 1048576) (hc : n ≤ c ∧ c ≤ maxLen) (hb : RdC w B l) (hl : l.length = m) (hm : m ≤ 1048576) (_hd : m ≤ d ∧ d ≤ maxLen) :
    Calls Try.prog 44 #[.slice A n c, .slice B m d] w fun e w' => ResC w (pcR p l) e w' := by
  cases h : permB p
  · have hr : pcR p l = none := by simp [pcR, h]
    rw [hr]; clear hr
    go_enter Try.func44, Try.ntmps44
    go_wp2_with fail
    refine (mGood_any _ _ _ p _ ha hp hc.1 hc.2).mono ?_
    rintro e w1 ⟨he, rfl⟩
    rw [h] at he; subst he
    go_wp2
    go_ret2
    exact ⟨_, _, _, rfl, OwnC.nil _ _ _, Ext.refl _⟩
  by_cases hnm : n = m
  · have hr : pcR p l = some (permC p l) := by simp [pcR, h, hp, hl, hnm]
    rw [hr]; clear hr
    subst hnm
    obtain ⟨h24, hR⟩ := permB_R h hp
    have hz : ((n : Int) != (n : Int)) = false := by simp
    have H := Lib.hid h
    have HR := Lib.hid hR
    clear h hR
    go_enter Try.func44, Try.ntmps44
    go_wp2_with fail
    refine (mGood_any _ _ _ p _ ha hp hc.1 hc.2).mono ?_
    rintro e w1 ⟨he, rfl⟩
    rw [H.out] at he; subst he
    go_wp2_with fail
    refine (mCiphers_any _ _ _ _ _ _ p l _ ha hb hp hl (by omega) (by unfold maxLen; omega) HR.out).mono ?_
    rintro e w2 ⟨A', c', rfl, hO, hE⟩
    go_wp2
    go_ret2
    exact ⟨_, _, _, rfl, hO, hE⟩
  · have hr : pcR p l = none := by simp [pcR, hp, hl, hnm]
    rw [hr]; clear hr
    have hz : ((m : Int) != (n : Int)) = true := by simp; omega
    go_enter Try.func44, Try.ntmps44
    go_wp2_with fail
    refine (mGood_any _ _ _ p _ ha hp hc.1 hc.2).mono ?_
    rintro e w1 ⟨he, rfl⟩
    rw [h] at he; subst he
    go_wp2
    go_ret2
    exact ⟨_, _, _, rfl, OwnC.nil _ _ _, Ext.refl _⟩

theorem OwnC.lit0 (w : World) {base e : Nat} (h : base ≤ w.heap.size) : OwnC (w.alloc (.cells #[] e)) base e (some ⟨w.heap.size, 0, none⟩) 0 0 [] :=
  ⟨rfl, .inr ⟨w.heap.size, 0, #[], rfl, h, heap_alloc_new w _, Nat.le_refl _, Nat.zero_le _, rfl, rfl⟩⟩
set_option maxHeartbeats 1000000 in
theorem iPermuteCiphers_any (A : Option Addr) (n c : Nat) (p : List Int) (B : Option Addr) (m d : Nat) (l : List (Int × Int)) (w : World) (ha : RdI w A p) (hp : p.length = n) (hn : n ≤ 1048576) (hc : n ≤ c ∧ c ≤ maxLen) (hb : RdC w B l) (hl : l.length = m) (hm : m ≤ 1048576) (_hd : m ≤ d ∧ d ≤ maxLen) :
    Calls Try.prog 46 #[.slice A n c, .slice B m d] w fun e w' => ResC w (pcR p l) e w' := by
  cases h : permB p
  · have hr : pcR p l = none := by simp [pcR, h]
    rw [hr]; clear hr
    go_enter Try.func46, Try.ntmps46
    go_wp2_with fail
    refine (iIsPermutation_b _ _ _ p _ ha hp hc.1 hc.2).mono ?_
    rintro e w1 ⟨he, hE⟩
    rw [h] at he; subst he
    go_wp2
    go_ret2
    exact ⟨_, _, _, rfl, OwnC.nil _ _ _, hE⟩
  by_cases hnm : n = m
  · have hr : pcR p l = some (permC p l) := by simp [pcR, h, hp, hl, hnm]
    rw [hr]; clear hr
    subst hnm
    obtain ⟨h24, hR⟩ := permB_R h hp
    have hz : ((n : Int) != (n : Int)) = false := by simp
    subst hp
    have H := Lib.hid h
    have HR := Lib.hid hR
    have HL := Lib.hid hl
    clear h hR hl
    go_enter Try.func46, Try.ntmps46
    go_wp2_with fail
    refine (iIsPermutation_b _ _ _ p _ ha rfl hc.1 hc.2).mono ?_
    rintro e w1 ⟨he, hE1⟩
    rw [H.out] at he; subst he
    go_wp2
    go_loopw [6, 22] (fun o i wr => ∃ (j : Nat) (A' : Option Addr) (c' : Nat), j ≤ p.length ∧ i = .int .i64 j ∧ o = .slice A' j c' ∧ OwnC wr w1.heap.size 117 A' j c' (permC (p.take j) l) ∧ Ext w1 wr) (fun _ i _ => p.length - (intOf i).toNat)
    case atStart => exact ⟨0, _, _, Nat.zero_le _, rfl, rfl, by simpa [permC] using OwnC.lit0 w1 (Nat.le_refl _), (Ext.refl w1).alloc _⟩
    case round =>
      obtain ⟨j, A', c', hj, rfl, rfl, hO, hE⟩ := hrel
      by_cases hlt : j < p.length
      · obtain ⟨ad, rfl, hcc⟩ := (ha.ext (hE1.trans hE)).at_ hlt
        have hr := allR_at HR.out hlt
        obtain ⟨K, hK⟩ := Int.eq_ofNat_of_zero_le hr.1
        have hKl : K < l.length := by rw [HL.out]; omega
        have hKp : K < p.length := by omega
        obtain ⟨bd, rfl, hd, he⟩ := (hb.ext (hE1.trans hE)).at_ hKl
        rw [hK] at hcc
        have HK := Lib.hid hK
        clear hK hr
        have hsz := hE.size
        go_wp2_with (at_builtin; refine wpList_app1C cipherSl rfl _ _ rfl hO rfl rfl (by omega) hsz ?_; intro A2 c2 w2 hO2 hb2)
        rw [← permC_take hlt HK.out hKl] at hO2
        go_roundw
        case rel => exact ⟨j + 1, A2, c2, by omega, by go_num, rfl, hO2, hE.then hb2 (Nat.le_refl _)⟩
        case measure => simp [intOf]; omega
      · obtain rfl : j = p.length := by omega
        rw [List.take_length] at hO
        go_wp2
        go_ret2
        exact ⟨_, _, _, rfl, hO.more hE1.size, hE1.trans hE⟩
  · have hr : pcR p l = none := by simp [pcR, hp, hl, hnm]
    rw [hr]; clear hr
    have hz : ((n : Int) != (m : Int)) = true := by simp; omega
    go_enter Try.func46, Try.ntmps46
    go_wp2_with fail
    refine (iIsPermutation_b _ _ _ p _ ha hp hc.1 hc.2).mono ?_
    rintro e w1 ⟨he, hE⟩
    rw [h] at he; subst he
    go_wp2
    go_ret2
    exact ⟨_, _, _, rfl, OwnC.nil _ _ _, hE⟩
end Go.Proofs.Yteohpelbkmdlmaa
