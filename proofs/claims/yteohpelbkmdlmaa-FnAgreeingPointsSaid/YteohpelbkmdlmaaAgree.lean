/- Contracts for AgreeingPoints: the program's and the reference's. -/
import Derived.Test.YteohpelbkmdlmaaProg
import Derived.Test.YteohpelbkmdlmaaGood
namespace Go.Proofs.Yteohpelbkmdlmaa
open Go.RowKit

/-- The product of the differences with t. -/
def shP (q t : Int) (l : List Int) : Int := l.foldl (fun out x => out * ((x - t) % q) % q) 1
theorem shP_take {q t : Int} {l : List Int} {j : Nat} (hj : j < l.length) : shP q t (l.take (j + 1)) = shP q t (l.take j) * ((l[j] - t) % q) % q := by
  unfold shP
  rw [List.take_succ_eq_append_getElem hj, List.foldl_append]
  rfl
theorem shP_bd {q t : Int} (hq : 2 ≤ q) {l : List Int} : ∀ j, 0 ≤ shP q t (l.take j) ∧ shP q t (l.take j) < q
  | 0 => by simp [shP]; omega
  | j + 1 => by
    by_cases hj : j < l.length
    · rw [shP_take hj]
      exact ⟨Int.emod_nonneg _ (by omega), Int.emod_lt_of_pos _ (by omega)⟩
    · have h := shP_bd hq (t := t) (l := l) j
      rw [List.take_of_length_le (by omega)] at h ⊢
      exact h
def agCnt (q : Int) (a b : List Int) (j : Nat) : Nat := ((List.range j).filter fun t : Nat => decide (shP q t a = shP q t b)).length
theorem agCnt_succ {q : Int} {a b : List Int} {j : Nat} : agCnt q a b (j + 1) = agCnt q a b j + if shP q j a = shP q j b then 1 else 0 := by
  unfold agCnt
  rw [List.range_succ, List.filter_append, List.length_append]
  congr 1
  by_cases h : shP q j a = shP q j b <;> simp [h]
theorem agCnt_le {q : Int} {a b : List Int} (j : Nat) : agCnt q a b j ≤ j := by
  unfold agCnt
  exact Nat.le_trans (List.length_filter_le _ _) (by simp)
theorem mul_bd5 {a b q : Int} (hq : q ≤ 2000000000) (ha : 0 ≤ a ∧ a < q) (hb : 0 ≤ b ∧ b < q) : 0 ≤ a * b ∧ a * b ≤ 4000000000000000000 :=
  ⟨Int.mul_nonneg ha.1 hb.1, Int.le_trans (Int.mul_le_mul (show a ≤ 2000000000 by omega) (show b ≤ 2000000000 by omega) hb.1 (by omega)) (by decide)⟩

set_option maxHeartbeats 1000000 in
theorem shiftedProduct_any (q t : Int) (A : Option Addr) (n c : Nat) (l : List Int) (w : World) (ha : RdI w A l) (hl : l.length = n) (hn : n ≤ maxLen) (hq : 2 ≤ q) (hq2 : q ≤ 2000000000) (ht : 0 ≤ t) (htq : t ≤ 2000000000) (hR : allR l 0 (q - 1) = true) :
    Calls Try.prog 152 #[.int .i64 q, .slice A n c, .int .i64 t] w fun e w' => e = .returned (.int .i64 (shP q t l)) ∧ w = w' := by
  unfold maxLen at hn
  subst hl
  have HR := Lib.hid hR
  clear hR
  have hq0 : (q == 0) = false := by simp; omega
  go_enter Try.func152, Try.ntmps152
  go_wp2
  go_loop [7, 12] (fun o i => ∃ k : Nat, k ≤ l.length ∧ i = .int .i64 k ∧ o = .int .i64 (shP q t (l.take k))) (fun _ i => l.length - (intOf i).toNat)
  case atStart => exact ⟨0, Nat.zero_le _, rfl, rfl⟩
  case round =>
    obtain ⟨k, hk, rfl, rfl⟩ := hrel
    by_cases hlt : k < l.length
    · obtain ⟨ad, rfl, hc⟩ := ha.at_ hlt
      have hx := allR_iff.1 HR.out _ (List.getElem_mem hlt)
      have hs := @shP_take q t l k hlt
      have b1 := shP_bd hq (t := t) (l := l) k
      generalize l[k] = x at *
      have b2 : 0 ≤ (x - t) % q ∧ (x - t) % q < q := ⟨Int.emod_nonneg _ (by omega), Int.emod_lt_of_pos _ (by omega)⟩
      have b3 := mul_bd5 hq2 b1 b2
      have HS := Lib.hid hs
      clear hs
      go_wp2_with fail
      refine (mod_any _ _ _ (by omega) (by omega) (by omega) (by omega)).mono ?_
      rintro e w1 ⟨rfl, rfl⟩
      go_wp2
      go_round
      case rel => exact ⟨k + 1, by omega, by go_num, by rw [HS.out]⟩
      case measure => simp [intOf]; omega
    · obtain rfl : k = l.length := by omega
      go_wp2
      go_ret
      exact ⟨rfl, rfl⟩

set_option maxHeartbeats 1000000 in
theorem vTimes_any (q t : Int) (A : Option Addr) (n c : Nat) (l : List Int) (w : World) (ha : RdI w A l) (hl : l.length = n) (hn : n ≤ maxLen) (hq : 2 ≤ q) (hq2 : q ≤ 2000000000) (ht : 0 ≤ t) (htq : t ≤ 2000000000) (hR : allR l 0 (q - 1) = true) :
    Calls Try.prog 154 #[.int .i64 q, .slice A n c, .int .i64 t] w fun e w' => e = .returned (.int .i64 (shP q t l)) ∧ w = w' := by
  unfold maxLen at hn
  subst hl
  have HR := Lib.hid hR
  clear hR
  have hq0 : (q == 0) = false := by simp; omega
  go_enter Try.func154, Try.ntmps154
  go_wp2
  go_loop [7, 14] (fun o i => ∃ k : Nat, k ≤ l.length ∧ i = .int .i64 k ∧ o = .int .i64 (shP q t (l.take k))) (fun _ i => l.length - (intOf i).toNat)
  case atStart => exact ⟨0, Nat.zero_le _, rfl, by rw [Int.emod_eq_of_lt (by omega) (by omega)]; rfl⟩
  case round =>
    obtain ⟨k, hk, rfl, rfl⟩ := hrel
    by_cases hlt : k < l.length
    · obtain ⟨ad, rfl, hc⟩ := ha.at_ hlt
      have hx := allR_iff.1 HR.out _ (List.getElem_mem hlt)
      have hs := @shP_take q t l k hlt
      have b1 := shP_bd hq (t := t) (l := l) k
      generalize l[k] = x at *
      have b2 : 0 ≤ (x - t) % q ∧ (x - t) % q < q := ⟨Int.emod_nonneg _ (by omega), Int.emod_lt_of_pos _ (by omega)⟩
      have b3 := mul_bd5 hq2 b1 b2
      have HS := Lib.hid hs
      clear hs
      go_wp2_with fail
      refine (nMod_any _ _ _ (by omega) (by omega) (by omega) (by omega)).mono ?_
      rintro e w1 ⟨rfl, rfl⟩
      go_wp2
      go_round
      case rel => exact ⟨k + 1, by omega, by go_num, by rw [HS.out]⟩
      case measure => simp [intOf]; omega
    · obtain rfl : k = l.length := by omega
      go_wp2
      go_ret
      exact ⟨rfl, rfl⟩

noncomputable def agG (q : Int) (a b : List Int) : Bool := decide (q ≤ 2000) && (fieldB q && (decide (a.length = b.length) && (decide (a.length ≤ 12) && (allR a 0 (q - 1) && allR b 0 (q - 1)))))
noncomputable def agVal (q : Int) (a b : List Int) : Int := if agG q a b then agCnt q a b q.toNat else 0

set_option maxHeartbeats 2000000 in
theorem sAgreeingPoints_any (q : Int) (A : Option Addr) (n c : Nat) (a : List Int) (B : Option Addr) (m d : Nat) (b : List Int) (w : World) (ha : RdI w A a) (hal : a.length = n) (_hn : n ≤ 1048576) (hc : n ≤ c ∧ c ≤ maxLen) (hb : RdI w B b) (hbl : b.length = m) (_hm : m ≤ 1048576) (hd : m ≤ d ∧ d ≤ maxLen) :
    Calls Try.prog 66 #[.int .i64 q, .slice A n c, .slice B m d] w fun e w' => e = .returned (.tuple #[.int .i64 (agVal q a b), .bool (agG q a b)]) ∧ Ext w w' := by
  have hmx := hc.2
  have hmx' := hd.2
  unfold maxLen at hmx hmx'
  subst hal hbl
  have hss : RdSS (w.alloc (.cells #[.slice A a.length c, .slice B b.length d] 22)) (some ⟨w.heap.size, 0, none⟩) [a, b] := by
    have hB := Blk.new w 22 #[.slice A a.length c, .slice B b.length d]
    refine .inr ⟨_, rfl, fun k hk => ?_⟩
    match k, hk with
    | 0, _ => exact ⟨A, a.length, c, by simp [Addr.add, hB.cells 0], ha.ext ((Ext.refl w).alloc _), rfl, hc⟩
    | 1, _ => exact ⟨B, b.length, d, by simp [Addr.add, hB.cells 1], hb.ext ((Ext.refl w).alloc _), rfl, hd⟩
  cases G : goodB q [a, b]
  · have h0 : agG q a b = false := by
      cases hz : agG q a b
      · rfl
      · simp only [agG, Bool.and_eq_true, decide_eq_true_eq] at hz
        obtain ⟨z1, z2, z3, z4, z5, z6⟩ := hz
        have : goodB q [a, b] = true := goodB_yes z2 fun i hi => by
          match i, hi with
          | 0, _ => simp only [List.getElem_cons_zero]; rw [z5, decide_eq_true (by omega)]; rfl
          | 1, _ => simp only [List.getElem_cons_succ, List.getElem_cons_zero]; rw [z6, decide_eq_true (by omega)]; rfl
        rw [G] at this; cases this
    have hv : agVal q a b = 0 := by simp [agVal, h0]
    rw [h0, hv]
    clear h0 hv
    go_enter Try.func66, Try.ntmps66
    go_wp2_with fail
    refine (yGood_any _ _ _ _ [a, b] _ hss rfl (by unfold maxLen; simp)).mono ?_
    rintro e w1 ⟨he, rfl⟩
    rw [G] at he; subst he
    go_wp2
    go_ret2
    exact ⟨rfl, (Ext.refl _).alloc _⟩
  have hG := G
  unfold goodB at hG
  simp only [Bool.and_eq_true, List.all_cons, List.all_nil, decide_eq_true_eq] at hG
  obtain ⟨z1, ⟨z2, z3⟩, ⟨z4, z5⟩, _⟩ := hG
  have hq := fieldB_rng z1
  by_cases h1 : 2000 < q
  · have h0 : agG q a b = false := by unfold agG; rw [decide_eq_false (by omega)]; rfl
    have hv : agVal q a b = 0 := by simp [agVal, h0]
    rw [h0, hv]
    clear h0 hv
    go_enter Try.func66, Try.ntmps66
    go_wp2_with fail
    refine (yGood_any _ _ _ _ [a, b] _ hss rfl (by unfold maxLen; simp)).mono ?_
    rintro e w1 ⟨he, rfl⟩
    rw [G] at he; subst he
    go_wp2
    go_ret2
    exact ⟨rfl, (Ext.refl _).alloc _⟩
  by_cases h2 : a.length = b.length
  · by_cases h3 : 12 < a.length
    · have h0 : agG q a b = false := by unfold agG; rw [decide_eq_false (show ¬ a.length ≤ 12 by omega)]; simp
      have hv : agVal q a b = 0 := by simp [agVal, h0]
      rw [h0, hv]
      clear h0 hv
      have h3' : (12 : Int) < (b.length : Int) := by omega
      generalize b.length = L at *
      subst h2
      go_enter Try.func66, Try.ntmps66
      go_wp2_with fail
      refine (yGood_any _ _ _ _ [a, b] _ hss rfl (by unfold maxLen; simp)).mono ?_
      rintro e w1 ⟨he, rfl⟩
      rw [G] at he; subst he
      go_wp2
      go_ret2
      exact ⟨rfl, (Ext.refl _).alloc _⟩
    · have h0 : agG q a b = true := by simp [agG, z1, z3, z5, h2]; omega
      have hv : agVal q a b = agCnt q a b q.toNat := by simp [agVal, h0]
      rw [h0, hv]
      clear h0 hv
      have H3 := Lib.hid z3
      have H5 := Lib.hid z5
      have HG := Lib.hid G
      clear z3 z5 G z1
      obtain ⟨N, rfl⟩ := Int.eq_ofNat_of_zero_le (show 0 ≤ q by omega)
      rw [Int.toNat_natCast]
      generalize hL : b.length = L at *
      subst h2
      have HL := Lib.hid hL
      clear hL
      go_enter Try.func66, Try.ntmps66
      go_wp2_with fail
      refine (yGood_any _ _ _ _ [a, b] _ hss rfl (by unfold maxLen; simp)).mono ?_
      rintro e w1 ⟨he, rfl⟩
      rw [HG.out] at he; subst he
      go_wp2
      go_loop [8, 9] (fun o i => ∃ k : Nat, k ≤ N ∧ i = .int .i64 k ∧ o = .int .i64 (agCnt N a b k : Nat)) (fun _ i => N - (intOf i).toNat)
      case atStart => exact ⟨0, Nat.zero_le _, rfl, rfl⟩
      case round =>
        obtain ⟨k, hk, rfl, rfl⟩ := hrel
        have hcn := @agCnt_le N a b k
        have hb1 := Lib.hid (@agCnt_succ N a b k)
        by_cases hlt : k < N
        · go_wp2_with fail
          refine (vTimes_any _ _ _ _ _ a _ (ha.ext ((Ext.refl _).alloc _)) rfl (Nat.le_trans hc.1 hc.2) (by omega) (by omega) (by omega) (by omega) H3.out).mono ?_
          rintro e w1 ⟨rfl, rfl⟩
          go_wp2_with fail
          refine (vTimes_any _ _ _ _ _ b _ (hb.ext ((Ext.refl _).alloc _)) HL.out (Nat.le_trans hd.1 hd.2) (by omega) (by omega) (by omega) (by omega) H5.out).mono ?_
          rintro e w1 ⟨rfl, rfl⟩
          by_cases hz : shP N k a = shP N k b
          · have hb2 := hb1.out
            rw [if_pos hz] at hb2
            have HB := Lib.hid hb2
            clear hb2
            go_wp2
            go_round
            case rel => exact ⟨k + 1, by omega, by go_num, by rw [HB.out]; go_num⟩
            case measure => simp [intOf]; omega
          · have hb2 := hb1.out
            rw [if_neg hz] at hb2
            have HB := Lib.hid hb2
            clear hb2
            go_wp2
            go_round
            case rel => exact ⟨k + 1, by omega, by go_num, by rw [HB.out]; go_num⟩
            case measure => simp [intOf]; omega
        · obtain rfl : k = N := by omega
          go_wp2
          go_ret2
          exact ⟨rfl, (Ext.refl _).alloc _⟩
  · have h0 : agG q a b = false := by unfold agG; rw [decide_eq_false h2]; simp
    have hv : agVal q a b = 0 := by simp [agVal, h0]
    rw [h0, hv]
    clear h0 hv
    have h2' : ¬ (a.length : Int) = (b.length : Int) := by omega
    go_enter Try.func66, Try.ntmps66
    go_wp2_with fail
    refine (yGood_any _ _ _ _ [a, b] _ hss rfl (by unfold maxLen; simp)).mono ?_
    rintro e w1 ⟨he, rfl⟩
    rw [G] at he; subst he
    go_wp2
    go_ret2
    exact ⟨rfl, (Ext.refl _).alloc _⟩

set_option maxHeartbeats 2000000 in
theorem iAgreeingPoints_any (q : Int) (A : Option Addr) (n c : Nat) (a : List Int) (B : Option Addr) (m d : Nat) (b : List Int) (w : World) (ha : RdI w A a) (hal : a.length = n) (_hn : n ≤ 1048576) (hc : n ≤ c ∧ c ≤ maxLen) (hb : RdI w B b) (hbl : b.length = m) (_hm : m ≤ 1048576) (hd : m ≤ d ∧ d ≤ maxLen) :
    Calls Try.prog 65 #[.int .i64 q, .slice A n c, .slice B m d] w fun e w' => e = .returned (.tuple #[.int .i64 (agVal q a b), .bool (agG q a b)]) ∧ Ext w w' := by
  have hmx := hc.2
  have hmx' := hd.2
  unfold maxLen at hmx hmx'
  subst hal hbl
  by_cases h1 : 2000 < q
  · have h0 : agG q a b = false := by unfold agG; rw [decide_eq_false (by omega)]; rfl
    have hv : agVal q a b = 0 := by simp [agVal, h0]
    rw [h0, hv]
    clear h0 hv
    go_enter Try.func65, Try.ntmps65
    go_wp2
    go_ret2
    exact ⟨rfl, Ext.refl _⟩
  cases z1 : fieldB q
  · have h0 : agG q a b = false := by simp [agG, z1]
    have hv : agVal q a b = 0 := by simp [agVal, h0]
    rw [h0, hv]
    clear h0 hv
    go_enter Try.func65, Try.ntmps65
    go_wp2_with fail
    refine (isField_any _ _).mono ?_
    rintro e w1 ⟨rfl, rfl⟩
    go_wp2
    go_ret2
    exact ⟨rfl, Ext.refl _⟩
  have hq := fieldB_rng z1
  by_cases h2 : a.length = b.length
  · by_cases h3 : 12 < a.length
    · have h0 : agG q a b = false := by unfold agG; rw [decide_eq_false (show ¬ a.length ≤ 12 by omega)]; simp
      have hv : agVal q a b = 0 := by simp [agVal, h0]
      rw [h0, hv]
      clear h0 hv
      have h3' : (12 : Int) < (b.length : Int) := by omega
      generalize b.length = L at *
      subst h2
      go_enter Try.func65, Try.ntmps65
      go_wp2_with fail
      refine (isField_any _ _).mono ?_
      rintro e w1 ⟨rfl, rfl⟩
      go_wp2
      go_ret2
      exact ⟨rfl, Ext.refl _⟩
    · have hla : a.length ≤ 12 := by omega
      cases z3 : allR a 0 (q - 1)
      · have h0 : agG q a b = false := by simp [agG, z3]
        have hv : agVal q a b = 0 := by simp [agVal, h0]
        rw [h0, hv]
        clear h0 hv
        generalize b.length = L at *
        subst h2
        go_enter Try.func65, Try.ntmps65
        go_wp2_with fail
        refine (isField_any _ _).mono ?_
        rintro e w1 ⟨rfl, rfl⟩
        go_wp2_with fail
        refine (areBelow_any _ _ _ a _ _ ha rfl (by unfold maxLen; omega) (by omega) (by omega)).mono ?_
        rintro e w1 ⟨rfl, hE⟩
        go_wp2
        go_ret2
        exact ⟨rfl, hE⟩
      cases z5 : allR b 0 (q - 1)
      · have h0 : agG q a b = false := by simp [agG, z5]
        have hv : agVal q a b = 0 := by simp [agVal, h0]
        rw [h0, hv]
        clear h0 hv
        generalize hL : b.length = L at *
        subst h2
        have HL := Lib.hid hL
        clear hL
        go_enter Try.func65, Try.ntmps65
        go_wp2_with fail
        refine (isField_any _ _).mono ?_
        rintro e w1 ⟨rfl, rfl⟩
        go_wp2_with fail
        refine (areBelow_any _ _ _ a _ _ ha rfl (by unfold maxLen; omega) (by omega) (by omega)).mono ?_
        rintro e w1 ⟨rfl, hE⟩
        go_wp2_with fail
        refine (areBelow_any _ _ _ b _ _ (hb.ext hE) HL.out (by unfold maxLen; omega) (by omega) (by omega)).mono ?_
        rintro e w2 ⟨rfl, hE2⟩
        go_wp2
        go_ret2
        exact ⟨rfl, hE.trans hE2⟩
      have h0 : agG q a b = true := by simp [agG, z1, z3, z5, h2]; omega
      have hv : agVal q a b = agCnt q a b q.toNat := by simp [agVal, h0]
      rw [h0, hv]
      clear h0 hv
      have H3 := Lib.hid z3
      have H5 := Lib.hid z5
      obtain ⟨N, rfl⟩ := Int.eq_ofNat_of_zero_le (show 0 ≤ q by omega)
      rw [Int.toNat_natCast]
      generalize hL : b.length = L at *
      subst h2
      have HL := Lib.hid hL
      clear hL
      go_enter Try.func65, Try.ntmps65
      go_wp2_with fail
      refine (isField_any _ _).mono ?_
      rintro e w1 ⟨rfl, rfl⟩
      go_wp2_with fail
      refine (areBelow_any _ _ _ a _ _ ha rfl (by unfold maxLen; omega) (by omega) (by omega)).mono ?_
      rintro e w1 ⟨rfl, hE⟩
      go_wp2_with fail
      refine (areBelow_any _ _ _ b _ _ (hb.ext hE) HL.out (by unfold maxLen; omega) (by omega) (by omega)).mono ?_
      rintro e w2 ⟨rfl, hE2⟩
      have hEE := hE.trans hE2
      go_wp2
      clear z3 z5 z1
      go_loop [8, 42] (fun o i => ∃ k : Nat, k ≤ N ∧ i = .int .i64 k ∧ o = .int .i64 (agCnt N a b k : Nat)) (fun _ i => N - (intOf i).toNat)
      case atStart => exact ⟨0, Nat.zero_le _, rfl, rfl⟩
      case round =>
        obtain ⟨k, hk, rfl, rfl⟩ := hrel
        have hcn := @agCnt_le N a b k
        have hb1 := Lib.hid (@agCnt_succ N a b k)
        by_cases hlt : k < N
        · go_wp2_with fail
          refine (shiftedProduct_any _ _ _ _ _ a _ (ha.ext hEE) rfl (Nat.le_trans hc.1 hc.2) (by omega) (by omega) (by omega) (by omega) H3.out).mono ?_
          rintro e w1 ⟨rfl, rfl⟩
          go_wp2_with fail
          refine (shiftedProduct_any _ _ _ _ _ b _ (hb.ext hEE) HL.out (Nat.le_trans hd.1 hd.2) (by omega) (by omega) (by omega) (by omega) H5.out).mono ?_
          rintro e w1 ⟨rfl, rfl⟩
          by_cases hz : shP N k a = shP N k b
          · have hb2 := hb1.out
            rw [if_pos hz] at hb2
            have HB := Lib.hid hb2
            clear hb2
            go_wp2
            go_round
            case rel => exact ⟨k + 1, by omega, by go_num, by rw [HB.out]; go_num⟩
            case measure => simp [intOf]; omega
          · have hb2 := hb1.out
            rw [if_neg hz] at hb2
            have HB := Lib.hid hb2
            clear hb2
            go_wp2
            go_round
            case rel => exact ⟨k + 1, by omega, by go_num, by rw [HB.out]; go_num⟩
            case measure => simp [intOf]; omega
        · obtain rfl : k = N := by omega
          go_wp2
          go_ret2
          exact ⟨rfl, hEE⟩
  · have h0 : agG q a b = false := by unfold agG; rw [decide_eq_false h2]; simp
    have hv : agVal q a b = 0 := by simp [agVal, h0]
    rw [h0, hv]
    clear h0 hv
    have h2' : ¬ (a.length : Int) = (b.length : Int) := by omega
    go_enter Try.func65, Try.ntmps65
    go_wp2_with fail
    refine (isField_any _ _).mono ?_
    rintro e w1 ⟨rfl, rfl⟩
    go_wp2
    go_ret2
    exact ⟨rfl, Ext.refl _⟩
end Go.Proofs.Yteohpelbkmdlmaa
