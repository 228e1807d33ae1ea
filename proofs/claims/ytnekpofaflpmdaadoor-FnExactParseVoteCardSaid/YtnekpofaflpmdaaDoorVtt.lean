/- Contracts for VoteText: the reference's text of a vote. -/
import Derived.Test.YtnekpofaflpmdaaDoorProg
import Derived.Test.YtnekpofaflpmdaaDoorVts
import Derived.Test.YtnekpofaflpmdaaDoorVoteC
namespace Go.Proofs.YtnekpofaflpmdaaDoor
open Go.RowKit
def bsT (l : List UInt8) : ByteArray := ⟨l.toArray⟩
theorem bsT_app (l m : List UInt8) : bsT l ++ bsT m = bsT (l ++ m) := by
  apply ByteArray.ext
  rw [ByteArray.data_append]
  simp [bsT]
theorem vtJ_len (a : Int) : ∀ l : List Int, (vtJ a l).length ≤ 2 * l.length
  | [] => by simp [vtJ]
  | [x] => by by_cases h : a = 4 <;> simp [vtJ, h]
  | x :: y :: l => by
    have ih := vtJ_len a (y :: l)
    by_cases h : a = 4
    · simp [vtJ, h] at ih ⊢; omega
    · simp [vtJ, h] at ih ⊢; omega
theorem bsT_size (l : List UInt8) : (bsT l).size = l.length := by simp [bsT, ByteArray.size]
theorem chrS_size (b : UInt8) : (chrS b).size = 1 := rfl
def vtOK (a : Int) (v : List Int) : Prop := ∀ x ∈ v, if a = 4 then 1 ≤ x ∧ x ≤ 26 else 0 ≤ x ∧ x < 10
set_option maxHeartbeats 1000000 in
set_option maxRecDepth 100000 in
theorem vText_any (a b c d f : Int) (A : Option Addr) (n k : Nat) (v : List Int) (w : World) (ha : RdI w A v) (hl : v.length = n) (hn : n ≤ 1048576) (hk : n ≤ k ∧ k ≤ maxLen) (hv : vtOK a v) :
    Calls Tryd.prog 22 #[.agg #[.int .i64 a, .int .i64 b, .int .i64 c, .int .i64 d, .int .i64 f], .slice A n k] w fun e w' => e = .returned (.string (vtT a v)) ∧ Ext w w' := by
  by_cases h0 : n = 0
  · subst h0
    obtain rfl : v = [] := List.eq_nil_of_length_eq_zero hl
    go_enter Tryd.func22, Tryd.ntmps22
    go_wp2
    go_ret
    exact ⟨rfl, (Ext.refl w).alloc _⟩
  · have HV := Lib.hid (show vtT a v = bsT (vtJ a v) by rw [vtT, if_neg (by rintro rfl; simp at hl; omega)]; rfl)
    have HL := Lib.hid hl
    have hD : ((n : Int) == 0) = false := by simp; omega
    clear hl
    have B0 := Blk.new w 27 #[.int .i64 a, .int .i64 b, .int .i64 c, .int .i64 d, .int .i64 f]
    have E0 := (Ext.refl w).alloc (.cells #[.int .i64 a, .int .i64 b, .int .i64 c, .int .i64 d, .int .i64 f] 27)
    go_enter Tryd.func22, Tryd.ntmps22
    go_wp2
    generalize hW : w.alloc _ = W at *
    go_loopw [5, 13] (fun s i wr => ∃ j : Nat, j ≤ n ∧ i = .int .i64 j ∧ s = .string (bsT (vtJ a (v.take j))) ∧ Ext W wr) (fun _ i _ => n - (intOf i).toNat)
    case atStart => exact ⟨0, Nat.zero_le _, rfl, rfl, Ext.refl _⟩
    case round =>
      obtain ⟨j, hj, rfl, rfl, E⟩ := hrel
      have B := B0.ext E
      have C := B.cells
      by_cases hlt : j < n
      · have hjv : j < v.length := by rw [HL.out]; exact hlt
        obtain ⟨ad, rfl, hc⟩ := (ha.ext (E0.trans E)).at_ hjv
        have hx := hv _ (List.getElem_mem hjv)
        have hs := vtJ_app a v[j] (v.take j)
        have htk : v.take j ++ [v[j]] = v.take (j + 1) := by simp
        rw [htk] at hs
        clear htk
        have hne : v.take j = [] ↔ j = 0 := by
          rw [List.take_eq_nil_iff]
          constructor
          · rintro (h | h)
            · exact h
            · exact absurd h (by rintro rfl; simp at hjv)
          · exact Or.inl
        have hz : (bsT (vtJ a (v.take j))).size ≤ 2097152 := by
          rw [bsT_size]
          have h1 := vtJ_len a (v.take j)
          have h2 : (v.take j).length ≤ j := by simp; omega
          omega
        generalize v[j] = x at *
        have hz1 : ∀ b, (9223372036854775807 < (bsT (vtJ a (v.take j))).size + (chrS b).size) = False := fun b => by
          rw [chrS_size]; exact eq_false (by omega)
        have hz2 : (9223372036854775807 < (bsT (vtJ a (v.take j))).size + 1) = False := eq_false (by omega)
        have hz3 : ∀ b, (9223372036854775807 < (bsT (vtJ a (v.take j))).size + 1 + (chrS b).size) = False := fun b => by
          rw [chrS_size]; exact eq_false (by omega)
        by_cases h4 : a = 4
        · subst h4
          rw [if_pos rfl] at hx hs
          have HS := Lib.hid hs
          clear hs
          have HC := Lib.hid (run_chr (b := byI (97 + x - 1)) (c := 1) wr (y := 97 + x - 1) (byI_eq (by omega) (by omega)) rfl)
          have E2 := E.alloc (.cells #[.int .u8 (97 + x - 1)] 5)
          go_wp2
          rw [HC.out]
          simp only [Result.andThen]
          rw [Oper.upon_value]
          go_wp2
          go_roundw
          case rel => exact ⟨j + 1, by omega, by go_num, by rw [HS.out, ← bsT_app]; rfl, E2⟩
          case measure => simp [intOf]; omega
        · rw [if_neg h4] at hx hs
          have hd4 : (a == 4) = false := by simpa using h4
          by_cases hj0 : j = 0
          · rw [if_pos (hne.2 hj0)] at hs
            have HS := Lib.hid hs
            have hnil : bsT (vtJ a (v.take j)) = bsT [] := by rw [hne.2 hj0]; rfl
            have HN := Lib.hid hnil
            clear hs hnil
            have hg : ¬ 0 < j := by omega
            clear hj0 hne
            go_wp2_with fail
            refine (l1Num_small x hx.1 hx.2 _).mono ?_
            rintro e w1 ⟨rfl, hb⟩
            go_wp2
            go_roundw
            case rel => exact ⟨j + 1, by omega, by go_num, by rw [HS.out, ← bsT_app]; rfl, E.trans hb⟩
            case measure => simp [intOf]; omega
          · rw [if_neg (fun h => hj0 (hne.1 h))] at hs
            have HS := Lib.hid hs
            clear hs
            have hg : decide (0 < (j : Int)) = true := decide_eq_true (by omega)
            go_wp2_with fail
            refine (l1Num_small x hx.1 hx.2 _).mono ?_
            rintro e w1 ⟨rfl, hb⟩
            go_wp2
            go_roundw
            case rel => exact ⟨j + 1, by omega, by go_num, by rw [HS.out, ← bsT_app, show ([44, byI (48 + x)] : List UInt8) = [44] ++ [byI (48 + x)] from rfl, ← bsT_app, ← ByteArray.append_assoc]; rfl, E.trans hb⟩
            case measure => simp [intOf]; omega
      · obtain rfl : j = n := by omega
        have htk : v.take j = v := List.take_of_length_le (by rw [HL.out]; exact Nat.le_refl _)
        rw [htk]
        clear htk
        go_wp2
        go_ret
        exact ⟨by rw [HV.out]; rfl, E0.trans E⟩
theorem ivB_vtOK {a b c d f : Int} {v : List Int} (h : ivB a b c d f v = true) : vtOK a v := by
  simp only [ivB, Bool.and_eq_true] at h
  obtain ⟨h1, h2⟩ := h
  have hk := valid_kind h1
  have mem : ∀ {lo hi : Int}, allR v lo hi = true → ∀ x ∈ v, lo ≤ x ∧ x ≤ hi := by
    intro lo hi h x hx
    obtain ⟨i, hi, rfl⟩ := List.mem_iff_getElem.1 hx
    exact allR_at h hi
  intro x hx
  unfold voteB at h2
  split at h2
  · rename_i h4
    simp only [risB, Bool.and_eq_true] at h2
    have := mem h2.1.1 x hx
    rw [if_neg (by omega)]; omega
  · split at h2
    · rename_i h4
      simp only [Bool.and_eq_true] at h2
      have := mem h2.2.1 x hx
      rw [if_neg (by omega)]; omega
    · split at h2
      · rename_i h4
        simp only [Bool.and_eq_true] at h2
        have := mem h2.1 x hx
        rw [if_neg (by omega)]; omega
      · simp only [Bool.and_eq_true] at h2
        have := mem h2.1 x hx
        rw [if_pos (by omega)]; omega
set_option maxHeartbeats 1000000 in
theorem sVoteText_any (a b c d f : Int) (A : Option Addr) (n k : Nat) (v : List Int) (w : World) (ha : RdI w A v) (hl : v.length = n) (hn : n ≤ 1048576) (hk : n ≤ k ∧ k ≤ maxLen) :
    Calls Tryd.prog 11 #[.agg #[.int .i64 a, .int .i64 b, .int .i64 c, .int .i64 d, .int .i64 f], .slice A n k] w fun e w' => e = .returned (.tuple #[.string (if ivB a b c d f v = true then vtT a v else ⟨#[]⟩), .bool (ivB a b c d f v)]) ∧ Ext w w' := by
  have E0 := (Ext.refl w).alloc (.cells #[.int .i64 a, .int .i64 b, .int .i64 c, .int .i64 d, .int .i64 f] 27)
  cases h : ivB a b c d f v
  · go_enter Tryd.func11, Tryd.ntmps11
    go_wp2_with fail
    refine (vGood_any _ _ _ _ _ _ _ _ v _ (ha.ext (by assumption)) hl hn hk).mono ?_
    rintro e w1 ⟨he, hb⟩
    rw [h] at he; subst he
    go_wp2
    go_ret2
    exact ⟨rfl, E0.trans hb⟩
  · have hO := ivB_vtOK h
    go_enter Tryd.func11, Tryd.ntmps11
    go_wp2_with fail
    refine (vGood_any _ _ _ _ _ _ _ _ v _ (ha.ext (by assumption)) hl hn hk).mono ?_
    rintro e w1 ⟨he, hb⟩
    rw [h] at he; subst he
    have E1 := E0.trans hb
    have B := (Blk.new w 27 _).ext hb
    have C := B.cells
    go_wp2_with fail
    refine (vText_any _ _ _ _ _ _ _ _ v _ (ha.ext (by assumption)) hl hn hk hO).mono ?_
    rintro e w2 ⟨rfl, hb2⟩
    go_wp2
    go_ret2
    exact ⟨rfl, E1.trans hb2⟩
end Go.Proofs.YtnekpofaflpmdaaDoor
