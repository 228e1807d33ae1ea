/- Contracts for the laws' own functions on lists of lists that come in: copies, sizes. -/
import Derived.Test.YteohpelbkmdlmaaProg
import Derived.Test.YteohpelbkmdlmaaEqSS
namespace Go.Proofs.Yteohpelbkmdlmaa
open Go.RowKit

theorem rowsFp_append (a b : List (Option Addr × Nat × Nat)) : rowsFp (a ++ b) = rowsFp a ++ rowsFp b := by simp [rowsFp]
theorem fpI_nodup (A : Option Addr) : (fpI A).Nodup := by cases A <;> simp [fpI]
/-- A row is laid into its cell. -/
theorem OwnII.lay {w : World} {base n c g j : Nat} {P : List Nat} {ls : List (List Int)} {B : Option Addr} {m d : Nat} {l : List Int} (h : OwnII w base (some ⟨g, 0, none⟩) n c P ls) (hj : j < ls.length) (hrow : OwnI w base 3 B m d l) (hap : Apart (fpI B) P) :
    ∃ P', OwnII (w.setCell ⟨g, j, none⟩ (.slice B m d)) base (some ⟨g, 0, none⟩) n c P' (ls.set j l) := by
  obtain ⟨rs, hV, hl, hI, hd, rfl⟩ := h
  have hj' : j < rs.length := by omega
  have hon : Only [g] w (w.setCell ⟨g, j, none⟩ (.slice B m d)) := (Only.refl [g] w).setCell (p := ⟨g, j, none⟩) (by simp) _
  have hA : ∀ {b1 n1 c1 : Nat} {C : Option Addr} {k : List Int}, OwnI w b1 3 C n1 c1 k → OwnI (w.setCell ⟨g, j, none⟩ (.slice B m d)) b1 3 C n1 c1 k := fun hk =>
    hk.only hon (fun b hb hb' => apart_types hV hk.v (by decide) b (by simpa [fpI] using hb') hb)
  refine ⟨_, rs.set j (B, m, d), ?_, by simpa using hl, fun i hi hi' => ?_, ?_, rfl⟩
  · have h1 := hV.set (j := j) (.slice B m d)
    have h2 : (rs.map rowV).set j (.slice B m d) = (rs.set j (B, m, d)).map rowV := by rw [List.map_set]; rfl
    rw [h2] at h1
    exact h1
  · by_cases e : i = j
    · subst e; simpa using hA hrow
    · have := hA (hI i (by simpa using hi) (by simpa using hi'))
      simpa [List.getElem_set_ne (Ne.symm e)] using this
  · have h1 : rs = rs.take j ++ rs[j] :: rs.drop (j + 1) := by rw [← List.drop_eq_getElem_cons hj', List.take_append_drop]
    have h2 : rs.set j (B, m, d) = rs.take j ++ (B, m, d) :: rs.drop (j + 1) := by
      conv => lhs; rw [h1]
      rw [List.set_append_right _ _ (by rw [List.length_take]; omega), List.length_take, Nat.min_eq_left (by omega), Nat.sub_self, List.set_cons_zero]
    have hap' : ∀ b ∈ fpI B, ¬ b ∈ rowsFp rs := fun b hb hb' => hap b hb (List.mem_append_right _ hb')
    rw [h2]
    rw [h1] at hd hap'
    have h3 : ∀ (x : Option Addr × Nat × Nat) (t : List (Option Addr × Nat × Nat)), rowsFp (x :: t) = fpI x.1 ++ rowsFp t := fun _ _ => rfl
    rw [rowsFp_append, h3] at hd hap' ⊢
    simp only [List.nodup_append, List.mem_append, not_or] at hd hap' ⊢
    refine ⟨hd.1, ⟨fpI_nodup B, hd.2.1.2.1, fun b hb b' hb' e => ?_⟩, fun b hb b' hb' e => ?_⟩
    · subst e; exact (hap' b hb).2.2 hb'
    · subst e
      rcases hb' with hb' | hb'
      · exact (hap' b hb').1 hb
      · exact hd.2.2 b hb b (.inr hb') rfl

theorem ownII_pad {w : World} {base n c : Nat} {A : Option Addr} (h : OwnV w base 22 A n c (List.replicate n (.slice none 0 0))) : OwnII w base A n c (fpI A) (List.replicate n []) := by
  have e : ∀ k, rowsFp (List.replicate k (none, 0, 0)) = [] := fun k => by
    induction k with
    | zero => rfl
    | succ k ih => rw [List.replicate_succ]; simp [rowsFp, fpI]
  refine ⟨List.replicate n (none, 0, 0), by simpa [rowV] using h, by simp, fun i hi hi' => ?_, by rw [e]; simp, by rw [e]; simp⟩
  simp only [List.getElem_replicate]
  exact OwnI.nil _ _ _

theorem padS_set {ls : List (List Int)} {j : Nat} (hj : j < ls.length) : (ls.take j ++ List.replicate (ls.length - j) []).set j ls[j] = ls.take (j + 1) ++ List.replicate (ls.length - (j + 1)) [] := by
  have h1 : (ls.take j).length = j := by rw [List.length_take]; omega
  rw [List.set_append_right _ _ (by omega), h1, Nat.sub_self, List.take_succ_eq_append_getElem hj, List.append_assoc]
  congr 1
  rw [show ls.length - j = (ls.length - (j + 1)) + 1 by omega, List.replicate_succ, List.set_cons_zero]
  rfl
set_option maxHeartbeats 1000000 in
theorem toIntSS_any (A : Option Addr) (n c : Nat) (ls : List (List Int)) (w : World) (ha : RdSS w A ls) (hl : ls.length = n) (hn : n + tot ls ≤ 1000000000) :
    Calls Try.prog 72 #[.slice A n c] w fun e w' => ∃ A' c' P, e = .returned (.slice A' n c') ∧ OwnII w' w.heap.size A' n c' P ls ∧ Ext w w' := by
  subst hl
  go_enter Try.func72, Try.ntmps72
  go_wp2_with (at_make; refine wpList_mkV rowsSl rfl _ _ rfl _ _ _ _ ls.length rfl rfl rfl rfl (by omega) (by omega) w.heap.size (Nat.le_refl _) ?_; intro w1 hO hE hz)
  go_loopw [4] (fun i wr => ∃ (j : Nat) (P : List Nat), j ≤ ls.length ∧ i = .int .i64 j ∧ OwnII wr w.heap.size (some ⟨w.heap.size, 0, none⟩) ls.length ls.length P (ls.take j ++ List.replicate (ls.length - j) []) ∧ Ext w wr) (fun i _ => ls.length - (intOf i).toNat)
  case atStart => exact ⟨0, _, Nat.zero_le _, rfl, by simpa using ownII_pad hO, hE⟩
  case round =>
    clear hO hE hz
    obtain ⟨j, P, hj, rfl, hII, hE⟩ := hrel
    by_cases hlt : j < ls.length
    · obtain ⟨ad, rfl, B, m, d, hc, hR, hm, hmd, hd⟩ := (ha.ext hE).at_ hlt
      have ht := tot_at hlt
      have hps := padS_set hlt
      have hjl : j < (ls.take j ++ List.replicate (ls.length - j) []).length := by rw [List.length_append, List.length_take, List.length_replicate]; omega
      generalize ls[j] = l at *
      subst hm
      have HP := Lib.hid hps
      clear hps
      have hlow := hII.low
      have hwz := hE.size
      go_wp2_with fail
      refine (toIntS_any _ _ _ l _ hR rfl (by omega)).mono ?_
      rintro e w2 ⟨A2, c2, rfl, hO2, hE2⟩
      have hap : Apart (fpI A2) P := Apart.of_high hlow hO2.high
      obtain ⟨P', hII2⟩ := (hII.ext hE2).lay hjl (hO2.more hwz) hap
      rw [HP.out] at hII2
      obtain ⟨g, B', m', d', hg, hcell, _⟩ := (hII.ext hE2).row hjl
      obtain ⟨rfl⟩ : g = w.heap.size := by simpa using hg.symm
      have hfr := ((hII.ext hE2).frz j).out
      clear hg
      go_wp2
      go_roundw
      case rel => exact ⟨j + 1, P', by omega, by go_num, hII2, (hE.trans hE2).setCell (p := ⟨w.heap.size, j, none⟩) (Nat.le_refl _) _⟩
      case measure => simp [intOf]; omega
    · obtain rfl : j = ls.length := by omega
      rw [List.take_length, Nat.sub_self, List.replicate_zero, List.append_nil] at hII
      go_wp2
      go_ret
      exact ⟨_, _, _, rfl, hII, hE⟩

theorem szIntS_any {A : Option Addr} {n c : Nat} {k : Int} {w : World} (hk : 0 ≤ k) (hk2 : k ≤ 1000000000) (hn : n ≤ 9223372036854775807) :
    Calls Try.prog 162 #[.slice A n c, .int .i64 k] w fun e w' => e = .returned (.int .i64 (if (n : Int) ≤ k then k - n else -1)) ∧ w = w' := by
  by_cases h : (n : Int) ≤ k
  · rw [if_pos h]
    go_enter Try.func162, Try.ntmps162
    go_wp2
    go_ret
    exact ⟨rfl, rfl⟩
  · rw [if_neg h]
    go_enter Try.func162, Try.ntmps162
    go_wp2
    go_ret
    exact ⟨rfl, rfl⟩
set_option maxHeartbeats 1000000 in
theorem szIntSS_any {A : Option Addr} {n c : Nat} {ls : List (List Int)} {k : Int} {w : World} (ha : RdSS w A ls) (hl : ls.length = n) (hn : n ≤ 9223372036854775807) (hk : 0 ≤ k) (hk2 : k ≤ 1000000000) :
    Calls Try.prog 70 #[.slice A n c, .int .i64 k] w fun e w' => e = .returned (.int .i64 (if (n : Int) + tot ls ≤ k then k - n - tot ls else -1)) ∧ w = w' := by
  subst hl
  by_cases h0 : (ls.length : Int) ≤ k
  · by_cases h1 : (ls.length : Int) + tot ls ≤ k
    · rw [if_pos h1]
      go_enter Try.func70, Try.ntmps70
      go_wp2
      go_loop [1, 5] (fun q i => ∃ j : Nat, j ≤ ls.length ∧ i = .int .i64 j ∧ q = .int .i64 (k - ls.length - tot (ls.take j))) (fun _ i => ls.length - (intOf i).toNat)
      case atStart => exact ⟨0, Nat.zero_le _, rfl, by simp [tot]⟩
      case round =>
        obtain ⟨j, hj, rfl, rfl⟩ := hrel
        by_cases hlt : j < ls.length
        · obtain ⟨ad, rfl, B, m, d, hc, hR, hm, hmd, hd⟩ := ha.at_ hlt
          have ht := tot_at hlt
          have ht2 := tot_take hlt
          unfold maxLen at hd
          rw [hm] at ht ht2
          have HT := Lib.hid ht2
          have HM := Lib.hid hm
          clear ht2 hm
          go_wp2_with fail
          refine (szIntS_any (by omega) (by omega) (by omega)).mono ?_
          rintro e w2 ⟨rfl, rfl⟩
          have hif : (m : Int) ≤ k - ls.length - tot (ls.take j) := by omega
          rw [if_pos hif]
          go_wp2
          go_round
          case rel => exact ⟨j + 1, by omega, by go_num, by rw [HT.out]; push_cast; congr 1; omega⟩
          case measure => simp [intOf]; omega
        · obtain rfl : j = ls.length := by omega
          rw [List.take_length]
          go_wp2
          go_ret
          exact ⟨rfl, rfl⟩
    · rw [if_neg h1]
      go_enter Try.func70, Try.ntmps70
      go_wp2
      go_loop [1, 5] (fun q i => ∃ j : Nat, j ≤ ls.length ∧ i = .int .i64 j ∧ q = .int .i64 (k - ls.length - tot (ls.take j)) ∧ (tot (ls.take j) : Int) ≤ k - ls.length) (fun _ i => ls.length - (intOf i).toNat)
      case atStart => exact ⟨0, Nat.zero_le _, rfl, by simp [tot], by simp [tot]; omega⟩
      case round =>
        obtain ⟨j, hj, rfl, rfl, hle⟩ := hrel
        by_cases hlt : j < ls.length
        · obtain ⟨ad, rfl, B, m, d, hc, hR, hm, hmd, hd⟩ := ha.at_ hlt
          have ht2 := tot_take hlt
          unfold maxLen at hd
          rw [hm] at ht2
          have HT := Lib.hid ht2
          have HM := Lib.hid hm
          clear ht2 hm
          by_cases hif : (m : Int) ≤ k - ls.length - tot (ls.take j)
          · go_wp2_with fail
            refine (szIntS_any (by omega) (by omega) (by omega)).mono ?_
            rintro e w2 ⟨rfl, rfl⟩
            rw [if_pos hif]
            go_wp2
            go_round
            case rel => exact ⟨j + 1, by omega, by go_num, by rw [HT.out]; push_cast; congr 1; omega, by rw [HT.out]; push_cast; omega⟩
            case measure => simp [intOf]; omega
          · go_wp2_with fail
            refine (szIntS_any (by omega) (by omega) (by omega)).mono ?_
            rintro e w2 ⟨rfl, rfl⟩
            rw [if_neg (by omega)]
            go_wp2
            go_ret
            exact ⟨rfl, rfl⟩
        · exfalso
          obtain rfl : j = ls.length := by omega
          rw [List.take_length] at hle
          omega
  · rw [if_neg (by omega)]
    go_enter Try.func70, Try.ntmps70
    go_wp2
    go_ret
    exact ⟨rfl, rfl⟩
theorem szIntSS_no {A : Option Addr} {n c : Nat} {ls : List (List Int)} {k : Int} {w : World} (ha : RdSS w A ls) (hl : ls.length = n) (hn : n ≤ 9223372036854775807) (h : k < n + tot ls) (hk : 0 ≤ k := by omega) (hk2 : k ≤ 1000000000 := by omega) :
    Calls Try.prog 70 #[.slice A n c, .int .i64 k] w fun e w' => e = .returned (.int .i64 (-1)) ∧ w = w' := by
  have := szIntSS_any (c := c) ha hl hn hk hk2
  rw [if_neg (by omega)] at this
  exact this
theorem szIntSS_yes {A : Option Addr} {n c : Nat} {ls : List (List Int)} {k : Int} {w : World} (ha : RdSS w A ls) (hl : ls.length = n) (hn : n ≤ 9223372036854775807) (h : (n : Int) + tot ls ≤ k) (hk2 : k ≤ 1000000000 := by omega) :
    Calls Try.prog 70 #[.slice A n c, .int .i64 k] w fun e w' => e = .returned (.int .i64 (k - n - tot ls)) ∧ w = w' := by
  have := szIntSS_any (c := c) ha hl hn (by omega) hk2
  rw [if_pos h] at this
  exact this
end Go.Proofs.Yteohpelbkmdlmaa
