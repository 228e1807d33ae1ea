/- Contracts for the laws' own functions on lists of ints: copies, comparisons, marks. -/
import Derived.Test.YtnekpofaflpmdaaDoorProg
import Derived.Test.YtnekpofaflpmdaaDoorBase
namespace Go.Proofs.YtnekpofaflpmdaaDoor
open Go.RowKit

theorem intSl : IntSl Tryd.prog 24 3 := by
  refine ⟨Tryd.underlying24, ?_⟩
  have h : (Tryd.prog.info? 3).map (fun i => (i.zero, i.size, i.bytes)) = some (some (.int .i64 0), 1, 8) := by kernel_rfl
  exact info_parts h

set_option maxHeartbeats 400000 in
theorem eqIntS_any (A B : Option Addr) (n m c d : Nat) (l k : List Int) (w : World) (ha : RdI w A l) (hb : RdI w B k) (hl : l.length = n) (hk : k.length = m) (hn : n ≤ maxLen) (hm : m ≤ maxLen) :
    Calls Tryd.prog 8 #[.slice A n c, .slice B m d] w fun e w' => e = .returned (.bool (decide (l = k))) ∧ ∃ N, w' = w.drewN N := by
  unfold maxLen at hn hm
  subst hl hk
  by_cases hne : l.length = k.length
  · have hne' : ((l.length : Int) != (k.length : Int)) = false := by simp [hne]
    have HE := Lib.hid hne
    clear hne
    go_enter Tryd.func8, Tryd.ntmps8
    go_wp2
    go_loopw [5] (fun i wr => ∃ j N : Nat, j ≤ l.length ∧ i = .int .i64 j ∧ wr = w.drewN N ∧ Hid (l.take j = k.take j)) (fun i _ => l.length - (intOf i).toNat)
    case atStart => exact ⟨0, 0, Nat.zero_le _, rfl, rfl, rfl⟩
    case round =>
      obtain ⟨j, N, hj, rfl, rfl, HT⟩ := hrel
      by_cases hlt : j < l.length
      · have hlt' : j < k.length := by rw [← HE.out]; exact hlt
        obtain ⟨ad, rfl, hca⟩ := ha.at_ hlt
        obtain ⟨bd, rfl, hcb⟩ := hb.at_ hlt'
        by_cases he : l[j] = k[j]
        · have he' : (l[j] != k[j]) = false := by simp [he]
          have HQ := Lib.hid he
          clear he
          go_wp2
          go_quiet (fail)
          go_wp2
          go_roundw
          case rel =>
            refine ⟨j + 1, _, by omega, by go_num, rfl, ?_⟩
            show l.take (j + 1) = k.take (j + 1)
            rw [List.take_succ_eq_append_getElem hlt, List.take_succ_eq_append_getElem hlt', HT.out, HQ.out]
          case measure => simp [intOf]; omega
        · have he' : (l[j] != k[j]) = true := by simp [he]
          go_wp2
          go_quiet (fail)
          go_wp2
          go_ret
          exact ⟨ret_bool (by symm; simp; rintro rfl; exact he rfl), _, World.drewN_drewN _ _ _⟩
      · obtain rfl : j = l.length := by omega
        have hf : decide (l = k) = true := by
          have h1 := HT.out
          rw [List.take_length, HE.out, List.take_length] at h1
          simpa using h1
        have HF := Lib.hid hf
        clear hf
        go_wp2
        go_ret
        exact ⟨ret_bool HF.out.symm, _, rfl⟩
  · have hne' : ((l.length : Int) != (k.length : Int)) = true := by simp; omega
    go_enter Tryd.func8, Tryd.ntmps8
    go_wp2
    go_ret
    exact ⟨ret_bool (by symm; simp; rintro rfl; exact hne rfl), 0, rfl⟩

theorem eqIntS_same {A B : Option Addr} {n m c d : Nat} {l : List Int} {w : World} (ha : RdI w A l) (hb : RdI w B l) (hl : l.length = n) (hk : l.length = m) (hn : n ≤ maxLen) (hm : m ≤ maxLen) :
    Calls Tryd.prog 8 #[.slice A n c, .slice B m d] w fun e w' => e = .returned (.bool true) ∧ Ext w w' :=
  (eqIntS_any A B n m c d l l w ha hb hl hk hn hm).mono fun _ _ ⟨he, N, hw⟩ => ⟨by rw [he]; simp, hw ▸ (Ext.refl w).drewN N⟩

/-- n numbers in a row from k on. -/
def iota (k : Int) (n : Nat) : List Int := (List.range n).map fun i : Nat => k + (i : Int)
theorem iota_length (k : Int) (n : Nat) : (iota k n).length = n := by simp [iota]
theorem iota_get (k : Int) (n i : Nat) (h : i < (iota k n).length) : (iota k n)[i] = k + i := by simp [iota]
theorem iota_succ (k : Int) (n : Nat) : iota k (n + 1) = iota k n ++ [k + n] := by simp [iota, List.range_succ]

set_option maxHeartbeats 400000 in
theorem heldIntS_any {A : Option Addr} {n c : Nat} {k : Int} {w : World} (ha : RdI w A (iota k n)) (hk : 0 ≤ k) (hn : k + n ≤ 1000000000) :
    Calls Tryd.prog 10 #[.slice A n c, .int .i64 k] w fun e w' => e = .returned (.int .i64 (k + n)) ∧ Ext w w' := by
  go_enter Tryd.func10, Tryd.ntmps10
  go_wp2
  go_loop [1, 5] (fun q i => ∃ j : Nat, j ≤ n ∧ i = .int .i64 j ∧ q = .int .i64 (k + j)) (fun _ i => n - (intOf i).toNat)
  case atStart => exact ⟨0, Nat.zero_le _, rfl, by simp⟩
  case round =>
    obtain ⟨j, hj, rfl, rfl⟩ := hrel
    by_cases hlt : j < n
    · obtain ⟨ad, rfl, hca⟩ := ha.at_ (k := j) (by rw [iota_length]; exact hlt)
      rw [iota_get] at hca
      go_wp2
      go_round
      case rel => exact ⟨j + 1, by omega, by go_num, by go_num⟩
      case measure => simp [intOf]; omega
    · obtain rfl : j = n := by omega
      go_wp2
      go_ret
      exact ⟨rfl, Ext.refl _⟩

theorem iota_set {k : Int} {l : List Int} {j : Nat} (hj : j < l.length) : (iota k j ++ l.drop j).set j (k + j) = iota k (j + 1) ++ l.drop (j + 1) := by
  rw [List.set_append_right _ _ (by rw [iota_length]; exact Nat.le_refl _), iota_length, Nat.sub_self, List.drop_eq_getElem_cons hj, List.set_cons_zero, iota_succ]
  simp

set_option maxHeartbeats 400000 in
theorem markIntS_any {A : Option Addr} {n c base : Nat} {l : List Int} {k : Int} {w : World} (ha : OwnI w base 3 A n c l) (hk : 0 ≤ k) (hn : k + n ≤ 1000000000) :
    Calls Tryd.prog 9 #[.slice A n c, .int .i64 k] w fun e w' => e = .returned (.int .i64 (k + n)) ∧ OwnI w' base 3 A n c (iota k n) ∧ Only (fpI A) w w' := by
  have HL := Lib.hid ha.len
  go_enter Tryd.func9, Tryd.ntmps9
  go_wp2
  go_loopw [1, 5] (fun q i wr => ∃ j : Nat, j ≤ n ∧ i = .int .i64 j ∧ q = .int .i64 (k + j) ∧ OwnI wr base 3 A n c (iota k j ++ l.drop j) ∧ Only (fpI A) w wr) (fun _ i _ => n - (intOf i).toNat)
  case atStart => exact ⟨0, Nat.zero_le _, rfl, by simp, ha, Only.refl _ _⟩
  case round =>
    obtain ⟨j, hj, rfl, rfl, hO, hB⟩ := hrel
    by_cases hlt : j < n
    · obtain ⟨g, rfl, hg, hfz, hcl⟩ := hO.addr (by omega)
      have hlj : j < l.length := by rw [HL.out]; exact hlt
      have hc := hcl j (by rw [List.length_append, iota_length, List.length_drop]; omega)
      have hf := hfz j
      clear hcl hfz
      have hO' := hO.set (j := j) (k + j)
      rw [iota_set hlj] at hO'
      go_wp2
      go_roundw
      case rel => exact ⟨j + 1, by omega, by go_num, by go_num, hO', hB.setCell (p := ⟨g, j, none⟩) (by simp [fpI]) _⟩
      case measure => simp [intOf]; omega
    · obtain rfl : j = n := by omega
      go_wp2
      go_ret
      refine ⟨rfl, ?_, hB⟩
      rw [List.drop_eq_nil_of_le (by rw [HL.out]; exact Nat.le_refl _), List.append_nil] at hO
      exact hO

theorem set_zeros {l : List Int} {j n : Nat} (hj : j < l.length) (hn : l.length = n) : (l.take j ++ List.replicate (n - j) 0).set j l[j] = l.take (j + 1) ++ List.replicate (n - (j + 1)) 0 := by
  have h1 : (l.take j).length = j := by rw [List.length_take]; omega
  rw [List.set_append_right _ _ (by omega), h1, Nat.sub_self, List.take_succ_eq_append_getElem hj, List.append_assoc]
  congr 1
  rw [show n - j = (n - (j + 1)) + 1 by omega, List.replicate_succ, List.set_cons_zero]
  rfl

set_option maxHeartbeats 400000 in
theorem toIntS_any (A : Option Addr) (n c : Nat) (l : List Int) (w : World) (ha : RdI w A l) (hl : l.length = n) (hn : n ≤ 1000000000) :
    Calls Tryd.prog 12 #[.slice A n c] w fun e w' => ∃ A' c', e = .returned (.slice A' n c') ∧ OwnI w' w.heap.size 3 A' n c' l ∧ Ext w w' := by
  subst hl
  go_enter Tryd.func12, Tryd.ntmps12
  go_wp2_with (at_make; refine wpList_mkI intSl rfl _ _ rfl _ _ _ _ l.length rfl rfl rfl rfl hn w.heap.size (Nat.le_refl _) ?_; intro w1 hO hE hz)
  go_loopw [4] (fun i wr => ∃ j : Nat, j ≤ l.length ∧ i = .int .i64 j ∧ OwnI wr w.heap.size 3 (some ⟨w.heap.size, 0, none⟩) l.length l.length (l.take j ++ List.replicate (l.length - j) 0) ∧ Ext w wr) (fun i _ => l.length - (intOf i).toNat)
  case atStart => exact ⟨0, Nat.zero_le _, rfl, by simpa using hO, hE⟩
  case round =>
    clear hO hE hz
    obtain ⟨j, hj, rfl, hO, hE⟩ := hrel
    by_cases hlt : j < l.length
    · obtain ⟨ad, rfl, hc⟩ := (ha.ext hE).at_ hlt
      obtain ⟨hw1, hw2⟩ := hO.at0 j (by rw [List.length_append, List.length_take, List.length_replicate]; omega)
      have hO' := hO.set (j := j) l[j]
      rw [set_zeros hlt rfl] at hO'
      go_wp2
      go_roundw
      case rel => exact ⟨j + 1, by omega, by go_num, hO', hE.setCell (p := ⟨w.heap.size, j, none⟩) (Nat.le_refl _) _⟩
      case measure => simp [intOf]; omega
    · obtain rfl : j = l.length := by omega
      rw [List.take_length, Nat.sub_self, List.replicate_zero, List.append_nil] at hO
      go_wp2
      go_ret
      exact ⟨_, _, rfl, hO, hE⟩
end Go.Proofs.YtnekpofaflpmdaaDoor
