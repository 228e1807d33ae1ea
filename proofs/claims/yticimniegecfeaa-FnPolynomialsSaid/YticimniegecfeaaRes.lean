/- Contracts for lists of residues: sums, dots, powers, inverses. -/
import Derived.Test.YticimniegecfeaaProg
import Derived.Test.YticimniegecfeaaEuc
import Derived.Test.YticimniegecfeaaEq
namespace Go.Proofs.Yticimniegecfeaa
open Go.RowKit

def sumV (l : List Int) (m : Int) : Nat → Int
  | 0 => 0
  | k + 1 => (sumV l m k + l.getD k 0) % m
def dotV (a b : List Int) (m : Int) : Nat → Int
  | 0 => 0
  | k + 1 => (dotV a b m k + a.getD k 0 * b.getD k 0 % m) % m
theorem sumV_bd (l : List Int) (m : Int) (hm : 0 < m) (k : Nat) : 0 ≤ sumV l m k ∧ sumV l m k < m := by
  cases k with
  | zero => exact ⟨Int.le_refl _, hm⟩
  | succ k => exact ⟨Int.emod_nonneg _ (by omega), Int.emod_lt_of_pos _ hm⟩
theorem dotV_bd (a b : List Int) (m : Int) (hm : 0 < m) (k : Nat) : 0 ≤ dotV a b m k ∧ dotV a b m k < m := by
  cases k with
  | zero => exact ⟨Int.le_refl _, hm⟩
  | succ k => exact ⟨Int.emod_nonneg _ (by omega), Int.emod_lt_of_pos _ hm⟩
theorem sumV_succ (l : List Int) (m : Int) {k : Nat} (hk : k < l.length) : sumV l m (k + 1) = (sumV l m k + l[k]) % m := by
  rw [sumV]; simp [List.getD_eq_getElem?_getD, hk]
theorem dotV_succ (a b : List Int) (m : Int) {k : Nat} (hk : k < a.length) (hk2 : k < b.length) : dotV a b m (k + 1) = (dotV a b m k + a[k] * b[k] % m) % m := by
  rw [dotV]; simp [List.getD_eq_getElem?_getD, hk, hk2]
theorem intmul_bd (a b : Int) (ha : 0 ≤ a) (hb : 0 ≤ b) (ha2 : a ≤ 3000000000) (hb2 : b ≤ 3000000000) : 0 ≤ a * b ∧ a * b ≤ 9000000000000000000 :=
  ⟨Int.mul_nonneg ha hb, Int.le_trans (Int.mul_le_mul ha2 hb2 hb (by omega)) (by decide)⟩

def trmB (l : List Int) (m : Int) : Bool := inR m 2 2000000000 && (decide (l.length ≤ 200) && allR l 0 (m - 1))
theorem trmB_iff {l : List Int} {m : Int} : trmB l m = true ↔ (2 ≤ m ∧ m ≤ 2000000000) ∧ l.length ≤ 200 ∧ ∀ x ∈ l, 0 ≤ x ∧ x ≤ m - 1 := by
  unfold trmB
  rw [Bool.and_eq_true, Bool.and_eq_true, inR_iff, allR_iff, decide_eq_true_iff]

set_option maxHeartbeats 1000000 in
theorem areTerms_any (A : Option Addr) (n c : Nat) (l : List Int) (m : Int) (w : World) (ha : RdI w A l) (hl : l.length = n) (hn : n ≤ 1000000) :
    Calls Try.prog 138 #[.slice A n c, .int .i64 m] w fun e w' => e = .returned (.bool (trmB l m)) ∧ Ext w w' := by
  obtain ⟨t, ht⟩ : ∃ t, trmB l m = t := ⟨_, rfl⟩
  rw [ht]
  cases h1 : inR m 2 2000000000
  · have e1 : t = false := by rw [← ht]; simp [trmB, h1]
    subst e1
    have HT := Lib.hid ht
    clear ht
    go_enter Try.func138, Try.ntmps138
    go_wp2_with fail
    refine (isModulus_any _ _).mono ?_
    rintro e w1 ⟨he, rfl⟩
    rw [h1] at he; subst he
    go_wp2
    go_ret
    exact ⟨rfl, Ext.refl _⟩
  have hb := inR_iff.1 h1
  by_cases h2 : n ≤ 200
  · have hlt : t = allR l 0 (m - 1) := by rw [← ht]; simp [trmB, h1, hl, h2]
    subst hlt
    have H1 := Lib.hid h1
    clear ht h1
    go_enter Try.func138, Try.ntmps138
    go_wp2_with fail
    refine (isModulus_any _ _).mono ?_
    rintro e w1 ⟨he, rfl⟩
    rw [H1.out] at he; subst he
    go_wp2_with fail
    refine (areBelow_any A n c l m _ ha hl (by unfold maxLen; omega) (by omega) (by omega)).mono ?_
    rintro e w1 ⟨rfl, hE⟩
    go_wp2
    go_ret
    exact ⟨rfl, hE⟩
  · have e1 : t = false := by rw [← ht]; simp [trmB, h1, hl, h2]
    subst e1
    have H1 := Lib.hid h1
    clear ht h1
    go_enter Try.func138, Try.ntmps138
    go_wp2_with fail
    refine (isModulus_any _ _).mono ?_
    rintro e w1 ⟨he, rfl⟩
    rw [H1.out] at he; subst he
    go_wp2
    go_ret
    exact ⟨rfl, Ext.refl _⟩
set_option maxHeartbeats 1000000 in
theorem nList_any (A : Option Addr) (n c : Nat) (l : List Int) (m : Int) (w : World) (ha : RdI w A l) (hl : l.length = n) (hn : n ≤ 1000000) (hm : 2 ≤ m) (hm2 : m ≤ 2000000000) :
    Calls Try.prog 139 #[.slice A n c, .int .i64 m] w fun e w' => e = .returned (.bool (trmB l m)) ∧ w = w' := by
  have h1 : inR m 2 2000000000 = true := inR_iff.2 ⟨hm, hm2⟩
  obtain ⟨t, ht⟩ : ∃ t, trmB l m = t := ⟨_, rfl⟩
  rw [ht]
  by_cases h2 : n ≤ 200
  · have hlt : t = allR l 0 (m - 1) := by rw [← ht]; simp [trmB, h1, hl, h2]
    subst hlt
    clear ht h1
    go_enter Try.func139, Try.ntmps139
    go_wp2_with fail
    refine (l1All_any A n c l _ _ _ ha hl (by unfold maxLen; omega)).mono ?_
    rintro e w1 ⟨rfl, rfl⟩
    go_wp2
    go_ret
    exact ⟨rfl, rfl⟩
  · have e1 : t = false := by rw [← ht]; simp [trmB, h1, hl, h2]
    subst e1
    clear ht h1
    go_enter Try.func139, Try.ntmps139
    go_wp2
    go_ret
    exact ⟨rfl, rfl⟩
set_option maxHeartbeats 1000000 in
theorem sum_any (A : Option Addr) (n c : Nat) (l : List Int) (m : Int) (w : World) (ha : RdI w A l) (hl : l.length = n) (hn : n ≤ 1000000) (hm : 2 ≤ m) (hm2 : m ≤ 2000000000) (hx : ∀ x ∈ l, 0 ≤ x ∧ x ≤ m - 1) :
    Calls Try.prog 141 #[.slice A n c, .int .i64 m] w fun e w' => e = .returned (.int .i64 (sumV l m n)) ∧ w = w' := by
  subst hl
  have HX := Lib.hid hx
  have h0 : (m == 0) = false := by simp; omega
  clear hx
  go_enter Try.func141, Try.ntmps141
  go_wp2
  go_loop [5, 10] (fun o i => ∃ (j : Nat) (s : Int), j ≤ l.length ∧ i = .int .i64 j ∧ o = .int .i64 s ∧ 0 ≤ s ∧ s < m ∧ Hid (s = sumV l m j)) (fun _ i => l.length - (intOf i).toNat)
  case atStart => exact ⟨0, 0, Nat.zero_le _, rfl, rfl, by omega, by omega, rfl⟩
  case round =>
    obtain ⟨j, s, hj, rfl, rfl, hs1, hs2, HS⟩ := hrel
    by_cases hlt : j < l.length
    · obtain ⟨ad, rfl, hc⟩ := ha.at_ hlt
      have hx := HX.out _ (List.getElem_mem hlt)
      have H1 := Lib.hid (sumV_succ l m hlt)
      generalize l[j] = x at *
      have hb := Int.emod_lt_of_pos (s + x) (show 0 < m by omega)
      have hb2 := Int.emod_nonneg (s + x) (show m ≠ 0 by omega)
      go_wp2
      go_round
      case rel => exact ⟨j + 1, (s + x) % m, by omega, by go_num, rfl, hb2, hb, by rw [Hid, H1.out, HS.out]⟩
      case measure => simp [intOf]; omega
    · obtain rfl : j = l.length := by omega
      go_wp2
      go_ret
      exact ⟨ret_int HS.out, rfl⟩
set_option maxHeartbeats 1000000 in
theorem dot_any (A B : Option Addr) (n c d : Nat) (a b : List Int) (m : Int) (w : World) (ha : RdI w A a) (hb : RdI w B b) (hl : a.length = n) (hl2 : b.length = n) (hn : n ≤ 1000000) (hm : 2 ≤ m) (hm2 : m ≤ 2000000000)
    (hx : ∀ x ∈ a, 0 ≤ x ∧ x ≤ m - 1) (hy : ∀ x ∈ b, 0 ≤ x ∧ x ≤ m - 1) :
    Calls Try.prog 140 #[.slice A n c, .slice B n d, .int .i64 m] w fun e w' => e = .returned (.int .i64 (dotV a b m n)) ∧ Ext w w' := by
  subst hl
  have HX := Lib.hid hx
  have HY := Lib.hid hy
  have h0 : (m == 0) = false := by simp; omega
  have HL := Lib.hid hl2
  clear hx hy
  go_enter Try.func140, Try.ntmps140
  go_wp2
  go_loopw [7, 11] (fun o i wr => ∃ (j N : Nat) (s : Int), j ≤ a.length ∧ i = .int .i64 j ∧ o = .int .i64 s ∧ wr = w.drewN N ∧ 0 ≤ s ∧ s < m ∧ Hid (s = dotV a b m j)) (fun _ i _ => a.length - (intOf i).toNat)
  case atStart => exact ⟨0, 0, 0, Nat.zero_le _, rfl, rfl, rfl, by omega, by omega, rfl⟩
  case round =>
    obtain ⟨j, N, s, hj, rfl, rfl, rfl, hs1, hs2, HS⟩ := hrel
    by_cases hlt : j < a.length
    · have hlt' : j < b.length := by rw [hl2]; exact hlt
      obtain ⟨ad, rfl, hca⟩ := ha.at_ hlt
      obtain ⟨bd, rfl, hcb⟩ := hb.at_ hlt'
      have hx := HX.out _ (List.getElem_mem hlt)
      have hy := HY.out _ (List.getElem_mem hlt')
      have H1 := Lib.hid (dotV_succ a b m hlt hlt')
      generalize a[j] = x at *
      generalize b[j] = y at *
      have hxy := intmul_bd x y hx.1 hy.1 (by omega) (by omega)
      have hp := Int.emod_lt_of_pos (x * y) (show 0 < m by omega)
      have hp2 := Int.emod_nonneg (x * y) (show m ≠ 0 by omega)
      have hq := Int.emod_lt_of_pos (s + x * y % m) (show 0 < m by omega)
      have hq2 := Int.emod_nonneg (s + x * y % m) (show m ≠ 0 by omega)
      go_wp2
      go_quiet (fail)
      go_wp2
      go_roundw
      case rel => exact ⟨j + 1, _, (s + x * y % m) % m, by omega, by go_num, rfl, rfl, hq2, hq, by rw [Hid, H1.out, HS.out]⟩
      case measure => simp [intOf]; omega
    · obtain rfl : j = a.length := by omega
      go_wp2
      go_ret
      exact ⟨ret_int HS.out, (Ext.refl w).drewN _⟩
set_option maxHeartbeats 1000000 in
theorem SumMod_yes (A : Option Addr) (n c : Nat) (l : List Int) (m : Int) (w : World) (ha : RdI w A l) (hl : l.length = n) (ht : trmB l m = true) :
    Calls Try.prog 48 #[.slice A n c, .int .i64 m] w fun e w' => e = .returned (.tuple #[.int .i64 (sumV l m n), .bool true]) ∧ Ext w w' := by
  have HT := Lib.hid ht
  obtain ⟨h1, h2, h3⟩ := trmB_iff.1 ht
  have H3 := Lib.hid h3
  clear ht h3
  go_enter Try.func48, Try.ntmps48
  go_wp2_with fail
  refine (areTerms_any A n c l m _ ha hl (by omega)).mono ?_
  rintro e w1 ⟨rfl, hE⟩
  rw [HT.out]
  go_wp2_with fail
  refine (sum_any A n c l m _ (ha.ext hE) hl (by omega) h1.1 h1.2 H3.out).mono ?_
  rintro e w2 ⟨rfl, rfl⟩
  go_wp2
  go_ret2
  exact ⟨rfl, hE⟩
set_option maxHeartbeats 1000000 in
theorem DotMod_yes (A B : Option Addr) (n c d : Nat) (a b : List Int) (m : Int) (w : World) (ha : RdI w A a) (hb : RdI w B b) (hl : a.length = n) (hl2 : b.length = n) (ht : trmB a m = true) (ht2 : trmB b m = true) :
    Calls Try.prog 47 #[.slice A n c, .slice B n d, .int .i64 m] w fun e w' => e = .returned (.tuple #[.int .i64 (dotV a b m n), .bool true]) ∧ Ext w w' := by
  have HT := Lib.hid ht
  have HT2 := Lib.hid ht2
  obtain ⟨h1, h2, h3⟩ := trmB_iff.1 ht
  obtain ⟨_, _, h4⟩ := trmB_iff.1 ht2
  have H3 := Lib.hid h3
  have H4 := Lib.hid h4
  clear ht h3 ht2 h4
  go_enter Try.func47, Try.ntmps47
  go_wp2_with fail
  refine (areTerms_any A n c a m _ ha hl (by omega)).mono ?_
  rintro e w1 ⟨rfl, hE⟩
  rw [HT.out]
  go_wp2_with fail
  refine (areTerms_any B n d b m _ (hb.ext hE) hl2 (by omega)).mono ?_
  rintro e w2 ⟨rfl, hE2⟩
  rw [HT2.out]
  replace hE := hE.trans hE2
  go_wp2_with fail
  refine (dot_any A B n c d a b m _ (ha.ext hE) (hb.ext hE) hl hl2 (by omega) h1.1 h1.2 H3.out H4.out).mono ?_
  rintro e w3 ⟨rfl, hE3⟩
  go_wp2
  go_ret2
  exact ⟨rfl, hE.trans hE3⟩
set_option maxHeartbeats 1000000 in
theorem PowerMod_yes (a k m : Int) (w : World) (hm : 2 ≤ m ∧ m ≤ 2000000000) (ha : 0 ≤ a ∧ a ≤ m - 1) (hk : 0 ≤ k ∧ k ≤ 2000000000) :
    Calls Try.prog 28 #[.int .i64 a, .int .i64 k, .int .i64 m] w fun e w' => e = .returned (.tuple #[.int .i64 (powM a k m), .bool true]) ∧ w = w' := by
  have H1 := Lib.hid (inR_iff.2 hm)
  have H2 := Lib.hid (inR_iff.2 ha)
  have H3 := Lib.hid (inR_iff.2 hk)
  go_enter Try.func28, Try.ntmps28
  go_wp2_with fail
  refine (isModulus_any _ _).mono ?_
  rintro e w1 ⟨he, rfl⟩
  rw [H1.out] at he; subst he
  go_wp2_with fail
  refine (within_any _ _ _ _).mono ?_
  rintro e w1 ⟨he, rfl⟩
  rw [H2.out] at he; subst he
  go_wp2_with fail
  refine (within_any _ _ _ _).mono ?_
  rintro e w1 ⟨he, rfl⟩
  rw [H3.out] at he; subst he
  go_wp2_with fail
  refine (power_any a k m _ ha.1 (by omega) hk.1 (by omega) (by omega) hm.2).mono ?_
  rintro e w1 ⟨rfl, rfl⟩
  go_wp2
  go_ret2
  exact ⟨rfl, rfl⟩

/-- All have inverses. -/
def InvOK (l : List Int) (m : Int) : Prop := trmB l m = true ∧ ∀ x ∈ l, invV x m ≠ 0
/-- What both lists of inverses are. -/
def InvAll (base : Nat) (l : List Int) (m : Int) (w : World) (e : Ending) (w' : World) : Prop :=
  ∃ A n c p ok, e = .returned (.tuple #[.slice A n c, .bool ok]) ∧ OwnI w' base 3 A n c p ∧ (ok = true ∧ InvOK l m ∧ p = l.map (fun x => invV x m) ∨ ok = false ∧ ¬ InvOK l m ∧ p = []) ∧ Ext w w'
theorem inv_take {l : List Int} {m : Int} {j : Nat} (hj : j < l.length) (h : ∀ x ∈ l.take j, invV x m ≠ 0) (hx : invV l[j] m ≠ 0) : ∀ x ∈ l.take (j + 1), invV x m ≠ 0 := by
  rw [List.take_succ_eq_append_getElem hj]
  intro x hxm
  rw [List.mem_append, List.mem_singleton] at hxm
  rcases hxm with h1 | rfl
  · exact h x h1
  · exact hx
theorem inv_map {l : List Int} {m v : Int} {j : Nat} (hj : j < l.length) (hx : invV l[j] m = v) : (l.take j).map (fun x => invV x m) ++ [v] = (l.take (j + 1)).map (fun x => invV x m) := by
  rw [List.take_succ_eq_append_getElem hj, List.map_append, List.map_cons, List.map_nil, hx]
set_option maxHeartbeats 2000000 in
theorem iInvertAll_any (A : Option Addr) (n c : Nat) (l : List Int) (m : Int) (w : World) (ha : RdI w A l) (hl : l.length = n) (hn : n ≤ 1000000) :
    Calls Try.prog 44 #[.slice A n c, .int .i64 m] w fun e w' => InvAll w.heap.size l m w e w' := by
  subst hl
  cases ht : trmB l m
  · have HT := Lib.hid ht
    clear ht
    go_enter Try.func44, Try.ntmps44
    go_wp2_with fail
    refine (areTerms_any A _ c l m _ ha rfl (by omega)).mono ?_
    rintro e w1 ⟨rfl, hE⟩
    rw [HT.out]
    go_wp2
    go_ret2
    exact ⟨none, 0, 0, [], false, rfl, OwnI.nil _ _ _, .inr ⟨rfl, fun h => (by have := h.1; rw [HT.out] at this; cases this), rfl⟩, hE⟩
  have HT := Lib.hid ht
  obtain ⟨h1, h2, h3⟩ := trmB_iff.1 ht
  have H3 := Lib.hid h3
  obtain ⟨M, rfl⟩ := Int.eq_ofNat_of_zero_le (show 0 ≤ m by omega)
  clear ht h3
  go_enter Try.func44, Try.ntmps44
  go_wp2_with fail
  refine (areTerms_any A _ c l M _ ha rfl (by omega)).mono ?_
  rintro e w1 ⟨rfl, hE1⟩
  rw [HT.out]
  have hsz1 := hE1.size
  go_wp2
  go_loopw [6, 17] (fun o i wr => ∃ (j : Nat) (A' : Option Addr) (c' : Nat), j ≤ l.length ∧ i = .int .i64 j ∧ o = .slice A' j c' ∧ OwnI wr w.heap.size 3 A' j c' ((l.take j).map fun x => invV x M) ∧ Hid (∀ x ∈ l.take j, invV x M ≠ 0) ∧ Ext w wr) (fun _ i _ => l.length - (intOf i).toNat)
  case atStart => exact ⟨0, _, _, Nat.zero_le _, rfl, rfl, ownI_lit [] rfl rfl hsz1 (Nat.zero_le _), by simp [Hid], hE1.alloc _⟩
  case round =>
    clear hE1 hsz1
    obtain ⟨j, A', c', hj, rfl, rfl, hO, HN, hE⟩ := hrel
    have hsz := hE.size
    by_cases hlt : j < l.length
    · obtain ⟨ad, rfl, hc⟩ := (ha.ext hE).at_ hlt
      have hx := H3.out _ (List.getElem_mem hlt)
      obtain ⟨x, hxe⟩ := Int.eq_ofNat_of_zero_le hx.1
      rw [hxe] at hc hx
      have HX := Lib.hid hxe
      clear hxe
      obtain ⟨V, hV⟩ : ∃ V, invV (x : Int) M = V := ⟨_, rfl⟩
      have HV := Lib.hid hV
      clear hV
      by_cases hv : V = 0
      · subst hv
        go_wp2_with fail
        refine (inverse_any x M _ (by omega) (by omega) (by omega)).mono ?_
        rintro e w2 ⟨rfl, rfl⟩
        rw [HV.out]
        go_wp2
        go_ret2
        exact ⟨none, 0, 0, [], false, rfl, OwnI.nil _ _ _, .inr ⟨rfl, fun h => h.2 _ (List.getElem_mem hlt) (by rw [HX.out]; exact HV.out), rfl⟩, hE⟩
      · have hv' : (V == 0) = false := by simp [hv]
        go_wp2_with fail
        refine (inverse_any x M _ (by omega) (by omega) (by omega)).mono ?_
        rintro e w2 ⟨rfl, rfl⟩
        rw [HV.out]
        go_wp2_with (at_builtin; refine wpList_app1 intSl rfl _ _ rfl hO rfl rfl (by omega) hsz ?_; intro A2 c2 w2 hO2 hb2)
        rw [inv_map hlt (by rw [HX.out]; exact HV.out)] at hO2
        go_roundw
        case rel => exact ⟨j + 1, A2, c2, by omega, by go_num, rfl, hO2, inv_take hlt HN.out (by rw [HX.out, HV.out]; exact hv), hE.then hb2 (Nat.le_refl _)⟩
        case measure => simp [intOf]; omega
    · obtain rfl : j = l.length := by omega
      have HN' := HN.out
      rw [List.take_length] at hO HN'
      go_wp2
      go_ret2
      exact ⟨_, _, _, _, true, rfl, hO, .inl ⟨rfl, ⟨HT.out, HN'⟩, rfl⟩, hE⟩
set_option maxHeartbeats 2000000 in
theorem sInvertAll_any (A : Option Addr) (n c : Nat) (l : List Int) (m : Int) (w : World) (ha : RdI w A l) (hl : l.length = n) (hn : n ≤ 1000000) :
    Calls Try.prog 45 #[.slice A n c, .int .i64 m] w fun e w' => InvAll w.heap.size l m w e w' := by
  subst hl
  cases hm : inR m 2 2000000000
  · have HM := Lib.hid hm
    clear hm
    go_enter Try.func45, Try.ntmps45
    go_wp2_with fail
    refine (nModulus_any _ _).mono ?_
    rintro e w1 ⟨he, rfl⟩
    rw [HM.out] at he; subst he
    go_wp2
    go_ret2
    exact ⟨none, 0, 0, [], false, rfl, OwnI.nil _ _ _, .inr ⟨rfl, fun h => (by have h1 := inR_iff.2 (trmB_iff.1 h.1).1; rw [HM.out] at h1; cases h1), rfl⟩, Ext.refl _⟩
  have hm2 := inR_iff.1 hm
  have HM := Lib.hid hm
  clear hm
  cases ht : trmB l m
  · have HT := Lib.hid ht
    clear ht
    go_enter Try.func45, Try.ntmps45
    go_wp2_with fail
    refine (nModulus_any _ _).mono ?_
    rintro e w1 ⟨he, rfl⟩
    rw [HM.out] at he; subst he
    go_wp2_with fail
    refine (nList_any A _ c l m _ ha rfl (by omega) hm2.1 hm2.2).mono ?_
    rintro e w1 ⟨he, rfl⟩
    rw [HT.out] at he; subst he
    go_wp2
    go_ret2
    exact ⟨none, 0, 0, [], false, rfl, OwnI.nil _ _ _, .inr ⟨rfl, fun h => (by have := h.1; rw [HT.out] at this; cases this), rfl⟩, Ext.refl _⟩
  have HT := Lib.hid ht
  obtain ⟨h1, h2, h3⟩ := trmB_iff.1 ht
  have H3 := Lib.hid h3
  obtain ⟨M, rfl⟩ := Int.eq_ofNat_of_zero_le (show 0 ≤ m by omega)
  clear ht h3
  go_enter Try.func45, Try.ntmps45
  go_wp2_with fail
  refine (nModulus_any _ _).mono ?_
  rintro e w1 ⟨he, rfl⟩
  rw [HM.out] at he; subst he
  go_wp2_with fail
  refine (nList_any A _ c l M _ ha rfl (by omega) hm2.1 hm2.2).mono ?_
  rintro e w1 ⟨he, rfl⟩
  rw [HT.out] at he; subst he
  go_wp2
  go_loopw [6, 22] (fun o i wr => ∃ (j : Nat) (A' : Option Addr) (c' : Nat), j ≤ l.length ∧ i = .int .i64 j ∧ o = .slice A' j c' ∧ OwnI wr w.heap.size 3 A' j c' ((l.take j).map fun x => invV x M) ∧ Hid (∀ x ∈ l.take j, invV x M ≠ 0) ∧ Ext w wr) (fun _ i _ => l.length - (intOf i).toNat)
  case atStart => exact ⟨0, _, _, Nat.zero_le _, rfl, rfl, OwnI.nil _ _ _, by simp [Hid], Ext.refl _⟩
  case round =>
    obtain ⟨j, A', c', hj, rfl, rfl, hO, HN, hE⟩ := hrel
    have hsz := hE.size
    by_cases hlt : j < l.length
    · obtain ⟨ad, rfl, hc⟩ := (ha.ext hE).at_ hlt
      have hx := H3.out _ (List.getElem_mem hlt)
      generalize hxe : l[j] = x at *
      have HX := Lib.hid hxe
      have HM2 := Lib.hid (Int.emod_eq_of_lt hx.1 (show x < M by omega))
      clear hxe
      go_wp2_with fail
      refine (nInverse_any x M _ (by omega) (by omega) (by omega) (by omega)).mono ?_
      rintro e w2 ⟨v, ok, rfl, hv, rfl⟩
      rw [HM2.out] at hv
      rcases hv with ⟨rfl, rfl, hv⟩ | ⟨rfl, hv⟩
      · have HV := Lib.hid hv
        clear hv
        go_wp2_with (at_builtin; refine wpList_app1 intSl rfl _ _ rfl hO rfl rfl (by omega) hsz ?_; intro A2 c2 w2 hO2 hb2)
        rw [inv_map hlt (by rw [HX.out])] at hO2
        go_roundw
        case rel => exact ⟨j + 1, A2, c2, by omega, by go_num, rfl, hO2, inv_take hlt HN.out (by rw [HX.out]; exact HV.out), hE.then hb2 (Nat.le_refl _)⟩
        case measure => simp [intOf]; omega
      · have HV := Lib.hid hv
        clear hv
        go_wp2
        go_ret2
        exact ⟨none, 0, 0, [], false, rfl, OwnI.nil _ _ _, .inr ⟨rfl, fun h => h.2 _ (List.getElem_mem hlt) (by rw [HX.out]; exact HV.out), rfl⟩, hE⟩
    · obtain rfl : j = l.length := by omega
      have HN' := HN.out
      rw [List.take_length] at hO HN'
      go_wp2
      go_ret2
      exact ⟨_, _, _, _, true, rfl, hO, .inl ⟨rfl, ⟨HT.out, HN'⟩, rfl⟩, hE⟩
end Go.Proofs.Yticimniegecfeaa
