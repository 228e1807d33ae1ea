/- Contracts for InversePermutation: the program's and the reference's. -/
import Derived.Test.YteohpelbkmdlmaaProg
import Derived.Test.YteohpelbkmdlmaaApply
namespace Go.Proofs.Yteohpelbkmdlmaa
open Go.RowKit

/-- The list with i, i+1, .. at the places that xs names. -/
def invGo (i : Int) (acc : List Int) : List Int → List Int
  | [] => acc
  | x :: xs => invGo (i + 1) (acc.set x.toNat i) xs
theorem invGo_snoc (xs : List Int) (x : Int) : ∀ (i : Int) (acc : List Int), invGo i acc (xs ++ [x]) = (invGo i acc xs).set x.toNat (i + xs.length) := by
  induction xs with
  | nil => intro i acc; simp [invGo]
  | cons y ys ih =>
    intro i acc
    simp only [List.cons_append, invGo, ih, List.length_cons]
    congr 1
    omega
theorem invGo_length (xs : List Int) : ∀ (i : Int) (acc : List Int), (invGo i acc xs).length = acc.length := by
  induction xs with
  | nil => intro i acc; rfl
  | cons y ys ih => intro i acc; simp [invGo, ih]
def invL (p : List Int) : List Int := invGo 0 (List.replicate p.length 0) p
def invAt (p : List Int) (j : Nat) : List Int := invGo 0 (List.replicate p.length 0) (p.take j)
theorem invAt_succ {p : List Int} {j K : Nat} (hj : j < p.length) (hK : p[j] = (K : Int)) : invAt p (j + 1) = (invAt p j).set K j := by
  unfold invAt
  rw [List.take_succ_eq_append_getElem hj, invGo_snoc, hK, Int.toNat_natCast, List.length_take, Nat.min_eq_left (by omega)]
  simp
theorem invAt_length (p : List Int) (j : Nat) : (invAt p j).length = p.length := by simp [invAt, invGo_length]


def invR (p : List Int) : Option (List Int) := if permB p then some (invL p) else none
theorem invR_bd (p : List Int) : ((invR p).getD []).length ≤ 100000 := by
  unfold invR
  split
  · rename_i h
    have := (permB_parts h).1
    simp only [Option.getD_some, invL, invGo_length, List.length_replicate]; omega
  · simp


set_option maxHeartbeats 1000000 in
theorem iInversePermutation_any (A : Option Addr) (n c : Nat) (p : List Int) (w : World) (ha : RdI w A p) (hp : p.length = n) (hn : n ≤ 1048576) (hc : n ≤ c ∧ c ≤ maxLen) :
    Calls Try.prog 105 #[.slice A n c] w fun e w' => ResI 3 w (invR p) e w' := by
  cases h1 : permB p
  · have hr : invR p = none := by simp [invR, h1]
    rw [hr]; clear hr
    go_enter Try.func105, Try.ntmps105
    go_wp2_with fail
    refine (iIsPermutation_b _ _ _ p _ ha hp hc.1 hc.2).mono ?_
    rintro e w1 ⟨he, hE⟩
    rw [h1] at he; subst he
    go_wp2
    go_ret2
    exact ⟨_, _, _, rfl, OwnI.nil _ _ _, hE⟩
  · have hr : invR p = some (invL p) := by simp [invR, h1]
    have hR : allR p 0 (n - 1) = true := by rw [← hp]; exact (permB_parts h1).2.1
    rw [hr]; clear hr
    subst hp
    have HR := Lib.hid hR
    clear hR
    go_enter Try.func105, Try.ntmps105
    go_wp2_with fail
    refine (iIsPermutation_b _ _ _ p _ ha rfl hc.1 hc.2).mono ?_
    rintro e w0 ⟨he, hE0⟩
    rw [h1] at he; subst he
    go_wp2_with (at_make; refine wpList_mkI intSl rfl _ _ rfl _ _ _ _ p.length rfl rfl rfl rfl (by omega) w0.heap.size (Nat.le_refl _) ?_; intro w1 hO hE hz)
    go_loopw [15] (fun i wr => ∃ j : Nat, j ≤ p.length ∧ i = .int .i64 j ∧ OwnI wr w0.heap.size 3 (some ⟨w0.heap.size, 0, none⟩) p.length p.length (invAt p j) ∧ Ext w0 wr) (fun i _ => p.length - (intOf i).toNat)
    case atStart => exact ⟨0, Nat.zero_le _, rfl, by simpa [invAt, invGo] using hO, hE⟩
    case round =>
      clear hO hE hz
      obtain ⟨j, hj, rfl, hO, hE⟩ := hrel
      by_cases hlt : j < p.length
      · obtain ⟨ad, rfl, hcell⟩ := ((ha.ext hE0).ext hE).at_ hlt
        have hr := allR_at HR.out hlt
        obtain ⟨K, hK⟩ := Int.eq_ofNat_of_zero_le hr.1
        have hKl : K < p.length := by omega
        obtain ⟨hw1, hw2⟩ := hO.at0 K (by rw [invAt_length]; omega)
        have hO' := hO.set (j := K) j
        rw [← invAt_succ hlt hK] at hO'
        rw [hK] at hcell
        have HK := Lib.hid hK
        clear hK hr
        go_wp2
        go_roundw
        case rel => exact ⟨j + 1, by omega, by go_num, hO', hE.setCell (p := ⟨w0.heap.size, K, none⟩) (Nat.le_refl _) _⟩
        case measure => simp [intOf]; omega
      · obtain rfl : j = p.length := by omega
        rw [invAt, List.take_length] at hO
        go_wp2
        go_ret2
        exact ⟨_, _, _, rfl, hO.more hE0.size, hE0.trans hE⟩
end Go.Proofs.Yteohpelbkmdlmaa
