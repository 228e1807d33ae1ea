/- Contracts for RankOf: the program's and the reference's. -/
import Derived.Test.YticimniegecfeaaProg
import Derived.Test.YticimniegecfeaaApply
namespace Go.Proofs.Yticimniegecfeaa
open Go.RowKit

def factN : Nat → Nat
  | 0 => 1
  | n + 1 => (n + 1) * factN n
theorem factN_pos : ∀ n, 0 < factN n
  | 0 => by simp [factN]
  | n + 1 => Nat.mul_pos (Nat.succ_pos n) (factN_pos n)
theorem factN_mono {m n : Nat} (h : m ≤ n) : factN m ≤ factN n := by
  induction n with
  | zero => have : m = 0 := by omega
            subst this; exact Nat.le_refl _
  | succ n ih =>
    by_cases e : m = n + 1
    · subst e; exact Nat.le_refl _
    · have h1 := ih (by omega)
      have h2 : factN n ≤ (n + 1) * factN n := Nat.le_mul_of_pos_left _ (Nat.succ_pos n)
      exact Nat.le_trans h1 h2
theorem factN_12 : factN 12 = 479001600 := rfl
theorem factN_11 : factN 11 = 39916800 := rfl

def lessC (l : List Int) (k : Int) : Nat := (l.filter fun x => decide (x < k)).length
theorem lessC_le (l : List Int) (k : Int) : lessC l k ≤ l.length := List.length_filter_le _ _
theorem lessC_take {l : List Int} {k : Int} {j : Nat} (hj : j < l.length) : lessC (l.take (j + 1)) k = lessC (l.take j) k + if l[j] < k then 1 else 0 := by
  unfold lessC
  rw [List.take_succ_eq_append_getElem hj, List.filter_append, List.length_append]
  congr 1
  by_cases h : l[j] < k <;> simp [h]
def rkS (p : List Int) : Nat → Nat
  | 0 => 0
  | j + 1 => rkS p j * (p.length - j) + lessC (p.drop (j + 1)) (p.getD j 0)
def rkI (p : List Int) : Nat → Nat
  | 0 => 0
  | j + 1 => rkI p j + lessC (p.drop (j + 1)) (p.getD j 0) * factN (p.length - 1 - j)
theorem rk_eq (p : List Int) : ∀ j, j ≤ p.length → rkI p j = rkS p j * factN (p.length - j)
  | 0, _ => by simp [rkI, rkS]
  | j + 1, h => by
    have ih := rk_eq p j (by omega)
    obtain ⟨t, ht⟩ : ∃ t, p.length - j = t + 1 := ⟨p.length - j - 1, by omega⟩
    rw [rkI, rkS, ih, ht, show p.length - 1 - j = t by omega, show p.length - (j + 1) = t by omega, factN, Nat.add_mul (rkS p j * (t + 1)), Nat.mul_assoc]
theorem rkS_bd {p : List Int} (hp : p.length ≤ 12) : ∀ j, rkS p j + 1 ≤ 12 ^ j
  | 0 => by simp [rkS]
  | j + 1 => by
    have ih := rkS_bd hp j
    have h1 : lessC (p.drop (j + 1)) (p.getD j 0) ≤ 11 := by
      have := lessC_le (p.drop (j + 1)) (p.getD j 0)
      rw [List.length_drop] at this
      omega
    have h2 : rkS p j * (p.length - j) ≤ rkS p j * 12 := Nat.mul_le_mul_left _ (by omega)
    rw [rkS, Nat.pow_succ]
    omega
theorem pow12_le {j : Nat} (h : j ≤ 12) : 12 ^ j ≤ 8916100448256 := Nat.le_trans (Nat.pow_le_pow_right (by decide) h) (by decide)
theorem rkI_bd {p : List Int} (hp : p.length ≤ 12) : ∀ j, rkI p j ≤ j * 439084800
  | 0 => by simp [rkI]
  | j + 1 => by
    have ih := rkI_bd hp j
    have h1 : lessC (p.drop (j + 1)) (p.getD j 0) ≤ 11 := by
      have := lessC_le (p.drop (j + 1)) (p.getD j 0)
      rw [List.length_drop] at this
      omega
    have h2 : factN (p.length - 1 - j) ≤ 39916800 := by rw [← factN_11]; exact factN_mono (by omega)
    have h3 : lessC (p.drop (j + 1)) (p.getD j 0) * factN (p.length - 1 - j) ≤ 11 * 39916800 := Nat.mul_le_mul h1 h2
    rw [rkI]
    omega

set_option maxHeartbeats 400000 in
theorem factorial_any (n : Nat) (w : World) (hn : n ≤ 12) : Calls Try.prog 107 #[.int .i64 n] w fun e w' => e = .returned (.int .i64 (factN n : Nat)) ∧ w = w' := by
  go_enter Try.func107, Try.ntmps107
  go_wp2
  go_loop [3, 4] (fun o i => ∃ k : Nat, 1 ≤ k ∧ (k ≤ n ∨ k = 1) ∧ i = .int .i64 (k + 1) ∧ o = .int .i64 (factN k : Nat)) (fun _ i => n + 1 - (intOf i).toNat)
  case atStart => exact ⟨1, by omega, .inr rfl, rfl, rfl⟩
  case round =>
    obtain ⟨k, hk, hk2, rfl, rfl⟩ := hrel
    by_cases hlt : (k : Int) + 1 ≤ n
    · have hs : factN (k + 1) = (k + 1) * factN k := rfl
      have hb := factN_mono (show k + 1 ≤ 12 by omega)
      rw [factN_12] at hb
      have hs2 : (factN k : Int) * ((k : Int) + 1) = (factN (k + 1) : Nat) := by rw [hs]; push_cast; rw [Int.mul_comm]
      have HS := Lib.hid hs
      clear hs
      go_wp2
      go_round
      case rel => exact ⟨k + 1, by omega, .inl (by omega), by go_num, rfl⟩
      case measure => simp [intOf]; omega
    · have hf : factN k = factN n := by
        by_cases e : k = n
        · rw [e]
        · have h1 : k = 1 := by omega
          have h2 : n = 0 := by omega
          subst h1 h2; rfl
      have HF := Lib.hid hf
      clear hf
      go_wp2
      go_ret
      exact ⟨by rw [HF.out]; rfl, rfl⟩

noncomputable def rkOk (p : List Int) : Bool := permB p && decide (p.length ≤ 12)
noncomputable def rkVal (p : List Int) : Int := if rkOk p then (rkS p p.length : Nat) else 0

set_option maxHeartbeats 2000000 in
theorem sRankOf_any (A : Option Addr) (n c : Nat) (p : List Int) (w : World) (ha : RdI w A p) (hp : p.length = n) (_hn : n ≤ 1048576) (hc : n ≤ c ∧ c ≤ maxLen) :
    Calls Try.prog 69 #[.slice A n c] w fun e w' => e = .returned (.tuple #[.int .i64 (rkVal p), .bool (rkOk p)]) ∧ Ext w w' := by
  have hmx := hc.2
  unfold maxLen at hmx
  subst hp
  cases h1 : permB p
  · have h0 : rkOk p = false := by simp [rkOk, h1]
    have hv : rkVal p = 0 := by simp [rkVal, h0]
    rw [h0, hv]
    clear h0 hv
    go_enter Try.func69, Try.ntmps69
    go_wp2_with fail
    refine (mGood_any _ _ _ p _ ha rfl hc.1 hc.2).mono ?_
    rintro e w1 ⟨he, rfl⟩
    rw [h1] at he; subst he
    go_wp2
    go_ret2
    exact ⟨rfl, Ext.refl _⟩
  by_cases h2 : 12 < p.length
  · have h0 : rkOk p = false := by unfold rkOk; rw [decide_eq_false (by omega), Bool.and_false]
    have hv : rkVal p = 0 := by simp [rkVal, h0]
    rw [h0, hv]
    clear h0 hv
    go_enter Try.func69, Try.ntmps69
    go_wp2_with fail
    refine (mGood_any _ _ _ p _ ha rfl hc.1 hc.2).mono ?_
    rintro e w1 ⟨he, rfl⟩
    rw [h1] at he; subst he
    go_wp2
    go_ret2
    exact ⟨rfl, Ext.refl _⟩
  · have h0 : rkOk p = true := by unfold rkOk; rw [h1, decide_eq_true (by omega)]; rfl
    have hv : rkVal p = (rkS p p.length : Nat) := by simp [rkVal, h0]
    rw [h0, hv]
    clear h0 hv
    have H1 := Lib.hid h1
    clear h1
    have h12 : p.length ≤ 12 := by omega
    go_enter Try.func69, Try.ntmps69
    go_wp2_with fail
    refine (mGood_any _ _ _ p _ ha rfl hc.1 hc.2).mono ?_
    rintro e w1 ⟨he, rfl⟩
    rw [H1.out] at he; subst he
    go_wp2
    go_loop [4, 20] (fun o i => ∃ k : Nat, k ≤ p.length ∧ i = .int .i64 k ∧ o = .int .i64 (rkS p k : Nat)) (fun _ i => p.length - (intOf i).toNat)
    case atStart => exact ⟨0, Nat.zero_le _, rfl, rfl⟩
    case round =>
      obtain ⟨k, hk, rfl, rfl⟩ := hrel
      by_cases hlt : k < p.length
      · obtain ⟨ad, hA, hcell⟩ := ha.at_ hlt
        have hRd : ∀ t, (ht : t < (p.drop (k + 1)).length) → w.cell? ⟨ad.block, ad.off + (k + 1) + t, none⟩ = some (.int .i64 (p.drop (k + 1))[t]) := by
          intro t ht
          have hl : (p.drop (k + 1)).length = p.length - (k + 1) := List.length_drop
          have hR := ha.drop (cap := c) (k + 1) hc.1
          rw [if_neg (by omega), hA] at hR
          obtain ⟨ad', e, h⟩ := hR.at_ ht
          obtain rfl : ad.add (k + 1) = ad' := by simpa using e
          rw [add_add] at h
          rw [← h, Addr.add, if_neg (by omega), Nat.add_assoc]
        have hdl : (p.drop (k + 1)).length = p.length - (k + 1) := List.length_drop
        have hS : rkS p (k + 1) = rkS p k * (p.length - k) + lessC (p.drop (k + 1)) p[k] := by simp [rkS, List.getD, hlt]
        have hB := rkS_bd h12 k
        have hB2 := pow12_le (show k ≤ 12 by omega)
        have hM : rkS p k * (p.length - k) ≤ 8916100448256 * 12 := Nat.mul_le_mul (by omega) (by omega)
        have hM2 : (rkS p k : Int) * ((p.length : Int) - k) = (rkS p k * (p.length - k) : Nat) := by rw [Int.natCast_mul, Int.ofNat_sub hk]
        have hlc := lessC_le (p.drop (k + 1)) p[k]
        subst hA
        generalize hpk : p[k] = x at *
        generalize hdr : p.drop (k + 1) = l at *
        have HS := Lib.hid hS
        have HX := Lib.hid hpk
        have HD := Lib.hid hdr
        clear hS hpk hdr
        generalize rkS p k * (p.length - k) = M at *
        go_wp2
        all_goals
          go_loop [7, 30] (fun o i => ∃ t : Nat, t ≤ p.length - (k + 1) ∧ i = .int .i64 t ∧ o = .int .i64 (lessC (l.take t) x : Nat)) (fun _ i => p.length - (intOf i).toNat)
          case atStart => exact ⟨0, Nat.zero_le _, rfl, by simp [lessC]⟩
          case round =>
            obtain ⟨t, ht, rfl, rfl⟩ := hrel
            have hlt2 := lessC_le (l.take t) x
            rw [List.length_take] at hlt2
            by_cases htl : t < p.length - (k + 1)
            · first
              | (exfalso; omega)
              | (have hc2 := hRd t (by omega)
                 have hT := @lessC_take l x t (by omega)
                 by_cases hx : l[t] < x
                 · rw [if_pos hx] at hT
                   have HT := Lib.hid hT
                   clear hT
                   go_wp2
                   go_round
                   case rel => exact ⟨t + 1, by omega, by go_num, by rw [HT.out] <;> go_num⟩
                   case measure => simp [intOf]; omega
                 · rw [if_neg hx] at hT
                   have HT := Lib.hid hT
                   clear hT
                   go_wp2
                   go_round
                   case rel => exact ⟨t + 1, by omega, by go_num, by rw [HT.out] <;> go_num⟩
                   case measure => simp [intOf]; omega)
            · obtain rfl : t = p.length - (k + 1) := by omega
              have hxx : l.take (p.length - (k + 1)) = l := List.take_of_length_le (by omega)
              rw [hxx] at hlt2 ⊢
              go_wp2
              go_round
              case rel =>
                first
                | exact ⟨k + 1, by omega, by go_num, by rw [HS.out]; go_num⟩
                | exact ⟨.int .i64 ((M : Int) + lessC l x), _, _, _, _, .int .i64 ((k : Int) + 1), ⟨k + 1, by omega, by go_num, by rw [HS.out]; go_num⟩, rfl, rfl, rfl, rfl, rfl, rfl⟩
              case measure => simp [intOf]; omega
      · obtain rfl : k = p.length := by omega
        go_wp2
        go_ret2
        exact ⟨rfl, Ext.refl _⟩

set_option maxHeartbeats 2000000 in
theorem iRankOf_any (A : Option Addr) (n c : Nat) (p : List Int) (w : World) (ha : RdI w A p) (hp : p.length = n) (_hn : n ≤ 1048576) (hc : n ≤ c ∧ c ≤ maxLen) :
    Calls Try.prog 68 #[.slice A n c] w fun e w' => e = .returned (.tuple #[.int .i64 (rkVal p), .bool (rkOk p)]) ∧ Ext w w' := by
  have hmx := hc.2
  unfold maxLen at hmx
  subst hp
  cases h1 : permB p
  · have h0 : rkOk p = false := by simp [rkOk, h1]
    have hv : rkVal p = 0 := by simp [rkVal, h0]
    rw [h0, hv]
    clear h0 hv
    go_enter Try.func68, Try.ntmps68
    go_wp2_with fail
    refine (iIsPermutation_b _ _ _ p _ ha rfl hc.1 hc.2).mono ?_
    rintro e w1 ⟨he, hE⟩
    rw [h1] at he; subst he
    go_wp2
    go_ret2
    exact ⟨rfl, hE⟩
  by_cases h2 : 12 < p.length
  · have h0 : rkOk p = false := by unfold rkOk; rw [decide_eq_false (by omega), Bool.and_false]
    have hv : rkVal p = 0 := by simp [rkVal, h0]
    rw [h0, hv]
    clear h0 hv
    go_enter Try.func68, Try.ntmps68
    go_wp2_with fail
    refine (iIsPermutation_b _ _ _ p _ ha rfl hc.1 hc.2).mono ?_
    rintro e w1 ⟨he, hE⟩
    rw [h1] at he; subst he
    go_wp2
    go_ret2
    exact ⟨rfl, hE⟩
  · have h0 : rkOk p = true := by unfold rkOk; rw [h1, decide_eq_true (by omega)]; rfl
    have hv : rkVal p = (rkI p p.length : Nat) := by rw [rkVal, if_pos h0, rk_eq p _ (Nat.le_refl _), Nat.sub_self]; simp [factN]
    rw [h0, hv]
    clear h0 hv
    have H1 := Lib.hid h1
    clear h1
    have h12 : p.length ≤ 12 := by omega
    go_enter Try.func68, Try.ntmps68
    go_wp2_with fail
    refine (iIsPermutation_b _ _ _ p _ ha rfl hc.1 hc.2).mono ?_
    rintro e w1 ⟨he, hE⟩
    rw [H1.out] at he; subst he
    have ha := ha.ext hE
    go_wp2
    go_loop [4, 20] (fun o i => ∃ k : Nat, k ≤ p.length ∧ i = .int .i64 k ∧ o = .int .i64 (rkI p k : Nat)) (fun _ i => p.length - (intOf i).toNat)
    case atStart => exact ⟨0, Nat.zero_le _, rfl, rfl⟩
    case round =>
      obtain ⟨k, hk, rfl, rfl⟩ := hrel
      by_cases hlt : k < p.length
      · obtain ⟨ad, hA, hcell⟩ := ha.at_ hlt
        have hRd : ∀ t, (ht : t < (p.drop (k + 1)).length) → w1.cell? ⟨ad.block, ad.off + (k + 1) + t, none⟩ = some (.int .i64 (p.drop (k + 1))[t]) := by
          intro t ht
          have hl : (p.drop (k + 1)).length = p.length - (k + 1) := List.length_drop
          have hR := ha.drop (cap := c) (k + 1) hc.1
          rw [if_neg (by omega), hA] at hR
          obtain ⟨ad', e, h⟩ := hR.at_ ht
          obtain rfl : ad.add (k + 1) = ad' := by simpa using e
          rw [add_add] at h
          rw [← h, Addr.add, if_neg (by omega), Nat.add_assoc]
        have hdl : (p.drop (k + 1)).length = p.length - (k + 1) := List.length_drop
        have hS : rkI p (k + 1) = rkI p k + lessC (p.drop (k + 1)) p[k] * factN (p.length - 1 - k) := by simp [rkI, List.getD, hlt]
        have hB := rkI_bd h12 k
        have hlc0 : lessC (p.drop (k + 1)) p[k] ≤ 11 := Nat.le_trans (lessC_le _ _) (by omega)
        have hF2 : factN (p.length - 1 - k) ≤ 39916800 := by rw [← factN_11]; exact factN_mono (by omega)
        have hM : lessC (p.drop (k + 1)) p[k] * factN (p.length - 1 - k) ≤ 11 * 39916800 := Nat.mul_le_mul hlc0 hF2
        have hM2 : (lessC (p.drop (k + 1)) p[k] : Int) * (factN (p.length - 1 - k) : Nat) = (lessC (p.drop (k + 1)) p[k] * factN (p.length - 1 - k) : Nat) := by rw [Int.natCast_mul]
        have hs1 : (p.length : Int) - 1 - k = (p.length - 1 - k : Nat) := by omega
        have hlc := lessC_le (p.drop (k + 1)) p[k]
        subst hA
        generalize hpk : p[k] = x at *
        generalize hdr : p.drop (k + 1) = l at *
        have HS := Lib.hid hS
        have HX := Lib.hid hpk
        have HD := Lib.hid hdr
        clear hS hpk hdr
        generalize hfn : lessC l x * factN (p.length - 1 - k) = M at *
        generalize p.length - 1 - k = s at *
        have HFN := Lib.hid hfn
        clear hfn
        obtain ⟨hck, HK⟩ | ⟨hck, HK⟩ : ((c = k + 1) = True ∧ Hid (c = k + 1)) ∨ ((c = k + 1) = False ∧ Hid (¬ c = k + 1)) := by
          by_cases h : c = k + 1
          · exact .inl ⟨eq_true h, h⟩
          · exact .inr ⟨eq_false h, h⟩
        all_goals
          go_wp2
          go_loop [7, 30] (fun o i => ∃ t : Nat, t ≤ p.length - (k + 1) ∧ i = .int .i64 t ∧ o = .int .i64 (lessC (l.take t) x : Nat)) (fun _ i => p.length - (intOf i).toNat)
          case atStart => exact ⟨0, Nat.zero_le _, rfl, by simp [lessC]⟩
          case round =>
            obtain ⟨t, ht, rfl, rfl⟩ := hrel
            have hlt2 := lessC_le (l.take t) x
            rw [List.length_take] at hlt2
            by_cases htl : t < p.length - (k + 1)
            · first
              | (exfalso; have := HK.out; omega)
              | (have hc2 := hRd t (by omega)
                 have hT := @lessC_take l x t (by omega)
                 by_cases hx : l[t] < x
                 · rw [if_pos hx] at hT
                   have HT := Lib.hid hT
                   clear hT
                   go_wp2
                   go_round
                   case rel => exact ⟨t + 1, by omega, by go_num, by rw [HT.out] <;> go_num⟩
                   case measure => simp [intOf]; omega
                 · rw [if_neg hx] at hT
                   have HT := Lib.hid hT
                   clear hT
                   go_wp2
                   go_round
                   case rel => exact ⟨t + 1, by omega, by go_num, by rw [HT.out] <;> go_num⟩
                   case measure => simp [intOf]; omega)
            · obtain rfl : t = p.length - (k + 1) := by omega
              have hxx : l.take (p.length - (k + 1)) = l := List.take_of_length_le (by omega)
              rw [hxx] at hlt2 ⊢
              go_wp2_with fail
              refine (factorial_any s _ (by omega)).mono ?_
              rintro e w1 ⟨rfl, rfl⟩
              go_wp2
              go_round
              case rel => exact ⟨k + 1, by omega, by go_num, by rw [HS.out]; go_num⟩
              case measure => simp [intOf]; omega
      · obtain rfl : k = p.length := by omega
        go_wp2
        go_ret2
        exact ⟨rfl, hE⟩
end Go.Proofs.Yticimniegecfeaa
