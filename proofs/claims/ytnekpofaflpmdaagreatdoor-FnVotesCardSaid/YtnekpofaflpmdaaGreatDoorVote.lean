/- Contracts for votes of a contest: whether a list is one; the reference's and the program's. -/
import Derived.Test.YtnekpofaflpmdaaGreatDoorProg
import Derived.Test.YtnekpofaflpmdaaGreatDoorCon
import Derived.Test.YtnekpofaflpmdaaGreatDoorPmat
import Derived.Deep.CutRange
namespace Go.Proofs.YtnekpofaflpmdaaGreatDoor
open Go.RowKit

theorem quietL {P : Program} {f : FuncId} {args : Array Value} {w : World} {n : Nat} {v : Value} (h : Calls P f args (w.drewN n) fun e w' => e = .returned v ∧ w.drewN n = w') :
    Calls P f args (w.drewN n) fun e w'' => e = .returned v ∧ ∃ m, w'' = w.drewN m := h.mono fun _ _ ⟨he, hm⟩ => ⟨he, n, hm.symm⟩

theorem add_succ (a : Addr) (i : Nat) : a.add (i + 1) = ⟨a.block, a.off + (i + 1), none⟩ := by unfold Addr.add; rw [if_neg (by omega)]
theorem adj_lt {l : List Int} (h : ∀ t, (ht : t + 1 < l.length) → l[t] < l[t + 1]) : l.Pairwise (· < ·) := by
  rw [List.pairwise_iff_getElem]
  intro i j hi hj hij
  obtain ⟨d, rfl⟩ : ∃ d, j = i + 1 + d := ⟨j - i - 1, by omega⟩
  clear hij
  induction d with
  | zero => exact h i hj
  | succ d ih => exact Int.lt_trans (ih (by omega)) (h (i + 1 + d) hj)
theorem adj_le {l : List Int} (h : ∀ t, (ht : t + 1 < l.length) → l[t] ≤ l[t + 1]) : l.Pairwise (· ≤ ·) := by
  rw [List.pairwise_iff_getElem]
  intro i j hi hj hij
  obtain ⟨d, rfl⟩ : ∃ d, j = i + 1 + d := ⟨j - i - 1, by omega⟩
  clear hij
  induction d with
  | zero => exact h i hj
  | succ d ih => exact Int.le_trans (ih (by omega)) (h (i + 1 + d) hj)
def sortB (l : List Int) : Bool := decide (l.Pairwise (· ≤ ·))
def risB (l : List Int) (lo hi : Int) : Bool := allR l lo hi && decide (l.Pairwise (· < ·))
theorem sortB_no {l : List Int} {t : Nat} (ht : t + 1 < l.length) (h : l[t + 1] < l[t]) : sortB l = false := by
  unfold sortB
  rw [decide_eq_false]
  intro hp
  have := List.pairwise_iff_getElem.1 hp t (t + 1) (by omega) ht (by omega)
  omega
theorem sortB_yes {l : List Int} (h : ∀ t, (ht : t + 1 < l.length) → l[t] ≤ l[t + 1]) : sortB l = true := decide_eq_true (adj_le h)
theorem risB_no1 {l : List Int} {lo hi : Int} {t : Nat} (ht : t < l.length) (h : inR l[t] lo hi = false) : risB l lo hi = false := by
  unfold risB; rw [allR_false ht h]; rfl
theorem risB_no2 {l : List Int} {lo hi : Int} {t : Nat} (ht : t + 1 < l.length) (h : l[t + 1] ≤ l[t]) : risB l lo hi = false := by
  unfold risB
  rw [decide_eq_false, Bool.and_false]
  intro hp
  have := List.pairwise_iff_getElem.1 hp t (t + 1) (by omega) ht (by omega)
  omega
theorem risB_yes {l : List Int} {lo hi : Int} (h0 : ∀ t, (ht : t < l.length) → inR l[t] lo hi = true) (h : ∀ t, (ht : t + 1 < l.length) → l[t] < l[t + 1]) : risB l lo hi = true := by
  unfold risB
  rw [decide_eq_true (adj_lt h), Bool.and_true, allR_iff]
  intro x hx
  obtain ⟨i, hi, rfl⟩ := List.getElem_of_mem hx
  exact inR_iff.1 (h0 i hi)
theorem ris_sort (l : List Int) (lo hi : Int) : risB l lo hi = (allR l lo hi && (sortB l && diffB l)) := by
  unfold risB sortB diffB
  congr 1
  rw [Bool.eq_iff_iff]
  simp only [Bool.and_eq_true, decide_eq_true_eq]
  constructor
  · intro h
    exact ⟨h.imp fun h => by omega, h.imp fun h => by omega⟩
  · rintro ⟨h1, h2⟩
    rw [List.pairwise_iff_getElem] at h1 ⊢
    intro i j hi hj hij
    have a1 := h1 i j hi hj hij
    have a2 : l[i] ≠ l[j] := fun he => by
      have := (List.getElem_inj h2).1 he
      omega
    omega

set_option maxHeartbeats 1000000 in
theorem l1Rising_any (A : Option Addr) (n c : Nat) (l : List Int) (lo hi : Int) (w : World) (ha : RdI w A l) (hl : l.length = n) (hn : n ≤ maxLen) :
    Calls Tryz.prog 63 #[.slice A n c, .int .i64 lo, .int .i64 hi] w fun e w' => e = .returned (.bool (risB l lo hi)) ∧ w = w' := by
  unfold maxLen at hn
  subst hl
  go_enter Tryz.func63, Tryz.ntmps63
  go_wp2
  go_loop [11] (fun i => ∃ j : Nat, j ≤ l.length ∧ i = .int .i64 j ∧ Hid (∀ t, (ht : t < l.length) → t < j → inR l[t] lo hi = true) ∧ Hid (∀ t, (ht : t + 1 < l.length) → t + 1 < j → l[t] < l[t + 1])) (fun i => l.length - (intOf i).toNat)
  case atStart => exact ⟨0, Nat.zero_le _, rfl, fun t _ h => absurd h (by omega), fun t _ h => absurd h (by omega)⟩
  case round =>
    obtain ⟨j, hj, rfl, HI, HJ⟩ := hrel
    by_cases hlt : j < l.length
    · obtain ⟨ad, rfl, hc⟩ := ha.at_ hlt
      cases hin : inR l[j] lo hi
      · have hr := Lib.hid (risB_no1 hlt hin)
        generalize l[j] = x at *
        go_wp2_with fail
        refine (l1In_any _ _ _ _).mono ?_
        rintro e w1 ⟨he, rfl⟩
        rw [hin] at he; subst he
        go_wp2
        go_ret
        exact ⟨ret_bool hr.out.symm, rfl⟩
      · have HI2 : ∀ t, (ht : t < l.length) → t < j + 1 → inR l[t] lo hi = true := fun t ht htj => by
          by_cases e : t = j
          · subst e; exact hin
          · exact HI.out t ht (by omega)
        have HII := Lib.hid HI2
        clear HI2
        by_cases hj0 : j = 0
        · subst hj0
          have hz : decide ((0 : Int) < ((0 : Nat) : Int)) = false := rfl
          have hc : w.cell? ad = some (.int .i64 l[0]) := hc
          generalize l[0] = x at *
          go_wp2_with fail
          refine (l1In_any _ _ _ _).mono ?_
          rintro e w1 ⟨he, rfl⟩
          rw [hin] at he; subst he
          go_wp2
          go_round
          case rel => exact ⟨1, by omega, rfl, HII.out, fun t _ h => absurd h (by omega)⟩
          case measure => simp [intOf]; omega
        · obtain ⟨i, rfl⟩ : ∃ i, j = i + 1 := ⟨j - 1, by omega⟩
          obtain ⟨ad', hA, hc2⟩ := ha.at_ (show i < l.length by omega)
          obtain rfl : ad = ad' := by simpa using hA
          clear hA hj0
          rw [add_succ] at hc
          have hi1 : ((i + 1 : Nat) : Int) - 1 = (i : Int) := by omega
          have hpos : (0 : Int) < ((i + 1 : Nat) : Int) := by omega
          by_cases hlt2 : l[i] < l[i + 1]
          · have HJ2 : ∀ t, (ht : t + 1 < l.length) → t + 1 < i + 1 + 1 → l[t] < l[t + 1] := fun t ht htj => by
              by_cases e : t = i
              · subst e; exact hlt2
              · exact HJ.out t ht (by omega)
            have HJJ := Lib.hid HJ2
            clear HJ2
            have hge : decide (l[i + 1] ≤ l[i]) = false := by simp; omega
            generalize l[i + 1] = x at *
            generalize l[i] = y at *
            go_wp2_with fail
            refine (l1In_any _ _ _ _).mono ?_
            rintro e w1 ⟨he, rfl⟩
            rw [hin] at he; subst he
            go_wp2
            go_round
            case rel => exact ⟨i + 1 + 1, by omega, by go_num, HII.out, HJJ.out⟩
            case measure => simp [intOf]; omega
          · have hr := Lib.hid (risB_no2 (lo := lo) (hi := hi) hlt (by omega : l[i + 1] ≤ l[i]))
            have hge : decide (l[i + 1] ≤ l[i]) = true := by simp; omega
            generalize l[i + 1] = x at *
            generalize l[i] = y at *
            go_wp2_with fail
            refine (l1In_any _ _ _ _).mono ?_
            rintro e w1 ⟨he, rfl⟩
            rw [hin] at he; subst he
            go_wp2
            go_ret
            exact ⟨ret_bool hr.out.symm, rfl⟩
    · obtain rfl : j = l.length := by omega
      have hr := Lib.hid (risB_yes (lo := lo) (hi := hi) (fun t ht => HI.out t ht ht) (fun t ht => HJ.out t ht ht))
      go_wp2
      go_ret
      exact ⟨ret_bool hr.out.symm, rfl⟩

theorem cmpLess_any (x y : Int) (w : World) : Calls Tryz.prog 81 #[.int .i64 x, .int .i64 y] w fun e w' => e = .returned (.bool (decide (x < y))) ∧ w = w' := by
  have hn : ∀ (z : Int) (w : World), Calls Tryz.prog 95 #[.int .i64 z] w fun e w' => e = .returned (.bool false) ∧ w = w' := by
    intro z w
    have hz : (z != z) = false := by simp
    go_enter Tryz.func95, Tryz.ntmps95
    go_wp2
    go_ret
    exact ⟨ret_bool (by simp), rfl⟩
  by_cases h : x < y
  · rw [decide_eq_true h]
    go_enter Tryz.func81, Tryz.ntmps81
    go_wp2_with fail
    refine (hn _ _).mono ?_
    rintro e w1 ⟨rfl, rfl⟩
    go_wp2
    go_ret
    exact ⟨rfl, rfl⟩
  · rw [decide_eq_false h]
    go_enter Tryz.func81, Tryz.ntmps81
    go_wp2_with fail
    refine (hn _ _).mono ?_
    rintro e w1 ⟨rfl, rfl⟩
    go_wp2
    go_ret
    exact ⟨ret_bool (decide_eq_false (by omega)), rfl⟩
set_option maxHeartbeats 1000000 in
theorem IsSorted_any (A : Option Addr) (n c : Nat) (l : List Int) (w : World) (ha : RdI w A l) (hl : l.length = n) (hn : n ≤ maxLen) :
    Calls Tryz.prog 52 #[.slice A n c] w fun e w' => e = .returned (.bool (sortB l)) ∧ Ext w w' := by
  unfold maxLen at hn
  subst hl
  go_enter Tryz.func52, Tryz.ntmps52
  go_wp2
  go_loopw [3] (fun i wr => ∃ j : Nat, j ≤ l.length ∧ i = .int .i64 ((j : Int) - 1) ∧ Ext w wr ∧ Hid (∀ t, (ht : t + 1 < l.length) → j ≤ t + 1 → l[t] ≤ l[t + 1])) (fun i _ => (intOf i + 1).toNat)
  case atStart => exact ⟨l.length, Nat.le_refl _, rfl, Ext.refl _, fun t ht h => absurd ht (by omega)⟩
  case round =>
    obtain ⟨j, hj, rfl, hE, HI⟩ := hrel
    by_cases hlt : 2 ≤ j
    · obtain ⟨i, rfl⟩ : ∃ i, j = i + 2 := ⟨j - 2, by omega⟩
      have e1 : ((i + 2 : Nat) : Int) - 1 = ((i + 1 : Nat) : Int) := by omega
      rw [e1]
      obtain ⟨ad, rfl, hc1⟩ := (ha.ext hE).at_ (show i + 1 < l.length by omega)
      obtain ⟨ad', hA, hc2⟩ := (ha.ext hE).at_ (show i < l.length by omega)
      obtain rfl : ad = ad' := by simpa using hA
      rw [add_succ] at hc1
      clear hA e1
      by_cases hle : l[i] ≤ l[i + 1]
      · have HI2 : ∀ t, (ht : t + 1 < l.length) → i + 1 ≤ t + 1 → l[t] ≤ l[t + 1] := fun t ht htj => by
          by_cases e : t = i
          · subst e; exact hle
          · exact HI.out t ht (by omega)
        have HII := Lib.hid HI2
        clear HI2
        have hcl := fun w => cmpLess_any l[i + 1] l[i] w
        rw [decide_eq_false (by omega : ¬ l[i + 1] < l[i])] at hcl
        generalize l[i + 1] = x at *
        generalize l[i] = y at *
        have HCL := Lib.hid hcl
        clear hcl
        go_wp2
        go_quiet ((go_at_call 81; exact quietL (HCL.out _)))
        go_wp2
        go_roundw
        case rel => exact ⟨i + 1, by omega, by go_num, hE.drewN _, HII.out⟩
        case measure => simp [intOf]; omega
      · have hr := Lib.hid (sortB_no (show i + 1 < l.length by omega) (by omega))
        have hcl := fun w => cmpLess_any l[i + 1] l[i] w
        rw [decide_eq_true (by omega : l[i + 1] < l[i])] at hcl
        generalize l[i + 1] = x at *
        generalize l[i] = y at *
        have HCL := Lib.hid hcl
        clear hcl
        go_wp2
        go_quiet ((go_at_call 81; exact quietL (HCL.out _)))
        go_wp2
        go_ret
        exact ⟨ret_bool hr.out.symm, hE.drewN _⟩
    · have hr := Lib.hid (sortB_yes (fun t ht => HI.out t ht (by omega)))
      have hz : ¬ (0 : Int) < (j : Int) - 1 := by omega
      go_wp2
      go_ret
      exact ⟨ret_bool hr.out.symm, hE⟩

/-- Whether a list is a vote of a valid contest. -/
def voteB (a b c d f : Int) (v : List Int) : Bool :=
  if a = 1 then risB v 0 (b - 1) && inR v.length c d
  else if a = 2 then decide ((v.length : Int) = b) && (allR v 0 f && inR v.sum c d)
  else if a = 3 then allR v 0 (b - 1) && (diffB v && inR v.length c d)
  else allR v 1 26 && inR v.length c d
theorem valid_kind {a b c d f : Int} (h : validCt a b c d f = true) : (a = 1 ∨ a = 2 ∨ a = 3 ∨ a = 4) ∧ 0 ≤ b ∧ b ≤ 8 ∧ 0 ≤ f ∧ f ≤ 5 ∧ 0 ≤ c ∧ c ≤ 40 ∧ 0 ≤ d ∧ d ≤ 40 := by
  rw [validCt_iff] at h
  obtain ⟨h1, h2, h3⟩ := h
  rcases h3 with ⟨h3 | h3, _, _, _, _⟩ | ⟨h3, hb1, hb2, hf1, hf2, hd⟩ | ⟨h3, _, _, _⟩
  · refine ⟨.inl h3, ?_⟩; omega
  · refine ⟨.inr (.inr (.inl h3)), ?_⟩; omega
  · refine ⟨.inr (.inl h3), by omega, by omega, by omega, by omega, by omega, ?_⟩
    have hm : b * f ≤ 8 * 5 := Int.mul_le_mul hb2 hf2 (by omega) (by omega)
    have hm0 : 0 ≤ b * f := Int.mul_nonneg (by omega) (by omega)
    have hw : wrap64 (b * f) = b * f := by simp only [wrap64]; omega
    rw [hw] at hd
    omega
  · refine ⟨.inr (.inr (.inr h3)), ?_⟩; omega

set_option maxHeartbeats 1000000 in
theorem vVote1 (b c d f : Int) (A : Option Addr) (n k : Nat) (v : List Int) (w : World) (hb : 0 ≤ b ∧ b ≤ 8) (ha : RdI w A v) (hl : v.length = n) (hn : n ≤ 1048577) :
    Calls Tryz.prog 39 #[.agg #[.int .i64 1, .int .i64 b, .int .i64 c, .int .i64 d, .int .i64 f], .slice A n k] w fun e w' => e = .returned (.bool (risB v 0 (b - 1) && inR v.length c d)) ∧ Ext w w' := by
  have B := Blk.new w 25 #[.int .i64 1, .int .i64 b, .int .i64 c, .int .i64 d, .int .i64 f]
  have hE := (Ext.refl w).alloc (.cells #[.int .i64 1, .int .i64 b, .int .i64 c, .int .i64 d, .int .i64 f] 25)
  have C := B.cells
  rw [hl]
  cases hr : risB v 0 (b - 1)
  · go_enter Tryz.func39, Tryz.ntmps39
    go_wp2_with fail
    refine (l1Rising_any _ _ _ v _ _ _ (ha.ext hE) hl (by unfold maxLen; omega)).mono ?_
    rintro e w1 ⟨he, rfl⟩
    rw [hr] at he; subst he
    go_wp2
    go_ret
    exact ⟨rfl, hE⟩
  · go_enter Tryz.func39, Tryz.ntmps39
    go_wp2_with fail
    refine (l1Rising_any _ _ _ v _ _ _ (ha.ext hE) hl (by unfold maxLen; omega)).mono ?_
    rintro e w1 ⟨he, rfl⟩
    rw [hr] at he; subst he
    go_wp2_with fail
    refine (l1In_any _ _ _ _).mono ?_
    rintro e w1 ⟨rfl, rfl⟩
    go_wp2
    go_ret
    exact ⟨rfl, hE⟩
set_option maxHeartbeats 1000000 in
theorem vVote3 (b c d f : Int) (A : Option Addr) (n k : Nat) (v : List Int) (w : World) (hb : 0 ≤ b ∧ b ≤ 8) (ha : RdI w A v) (hl : v.length = n) (hn : n ≤ 1048577) (hk : n ≤ k ∧ k ≤ maxLen) :
    Calls Tryz.prog 39 #[.agg #[.int .i64 3, .int .i64 b, .int .i64 c, .int .i64 d, .int .i64 f], .slice A n k] w fun e w' => e = .returned (.bool (allR v 0 (b - 1) && (diffB v && inR v.length c d))) ∧ Ext w w' := by
  have B := Blk.new w 25 #[.int .i64 3, .int .i64 b, .int .i64 c, .int .i64 d, .int .i64 f]
  have hE := (Ext.refl w).alloc (.cells #[.int .i64 3, .int .i64 b, .int .i64 c, .int .i64 d, .int .i64 f] 25)
  have C := B.cells
  rw [hl]
  cases hr : allR v 0 (b - 1)
  · go_enter Tryz.func39, Tryz.ntmps39
    go_wp2_with fail
    refine (l1All_any _ _ _ v _ _ _ (ha.ext hE) hl (by unfold maxLen; omega)).mono ?_
    rintro e w1 ⟨he, rfl⟩
    rw [hr] at he; subst he
    go_wp2
    go_ret
    exact ⟨rfl, hE⟩
  · cases hd : diffB v
    · go_enter Tryz.func39, Tryz.ntmps39
      go_wp2_with fail
      refine (l1All_any _ _ _ v _ _ _ (ha.ext hE) hl (by unfold maxLen; omega)).mono ?_
      rintro e w1 ⟨he, rfl⟩
      rw [hr] at he; subst he
      go_wp2_with fail
      refine (vDifferent_any _ _ _ v _ (ha.ext hE) hl hk.1 hk.2).mono ?_
      rintro e w1 ⟨he, rfl⟩
      rw [hd] at he; subst he
      go_wp2
      go_ret
      exact ⟨rfl, hE⟩
    · go_enter Tryz.func39, Tryz.ntmps39
      go_wp2_with fail
      refine (l1All_any _ _ _ v _ _ _ (ha.ext hE) hl (by unfold maxLen; omega)).mono ?_
      rintro e w1 ⟨he, rfl⟩
      rw [hr] at he; subst he
      go_wp2_with fail
      refine (vDifferent_any _ _ _ v _ (ha.ext hE) hl hk.1 hk.2).mono ?_
      rintro e w1 ⟨he, rfl⟩
      rw [hd] at he; subst he
      go_wp2_with fail
      refine (l1In_any _ _ _ _).mono ?_
      rintro e w1 ⟨rfl, rfl⟩
      go_wp2
      go_ret
      exact ⟨rfl, hE⟩
set_option maxHeartbeats 1000000 in
theorem vVote4 (b c d f : Int) (A : Option Addr) (n k : Nat) (v : List Int) (w : World) (ha : RdI w A v) (hl : v.length = n) (hn : n ≤ 1048577) :
    Calls Tryz.prog 39 #[.agg #[.int .i64 4, .int .i64 b, .int .i64 c, .int .i64 d, .int .i64 f], .slice A n k] w fun e w' => e = .returned (.bool (allR v 1 26 && inR v.length c d)) ∧ Ext w w' := by
  have B := Blk.new w 25 #[.int .i64 4, .int .i64 b, .int .i64 c, .int .i64 d, .int .i64 f]
  have hE := (Ext.refl w).alloc (.cells #[.int .i64 4, .int .i64 b, .int .i64 c, .int .i64 d, .int .i64 f] 25)
  have C := B.cells
  rw [hl]
  cases hr : allR v 1 26
  · go_enter Tryz.func39, Tryz.ntmps39
    go_wp2_with fail
    refine (l1All_any _ _ _ v _ _ _ (ha.ext hE) hl (by unfold maxLen; omega)).mono ?_
    rintro e w1 ⟨he, rfl⟩
    rw [hr] at he; subst he
    go_wp2
    go_ret
    exact ⟨rfl, hE⟩
  · go_enter Tryz.func39, Tryz.ntmps39
    go_wp2_with fail
    refine (l1All_any _ _ _ v _ _ _ (ha.ext hE) hl (by unfold maxLen; omega)).mono ?_
    rintro e w1 ⟨he, rfl⟩
    rw [hr] at he; subst he
    go_wp2_with fail
    refine (l1In_any _ _ _ _).mono ?_
    rintro e w1 ⟨rfl, rfl⟩
    go_wp2
    go_ret
    exact ⟨rfl, hE⟩
set_option maxHeartbeats 2000000 in
theorem vVote2 (b c d f : Int) (A : Option Addr) (n k : Nat) (v : List Int) (w : World) (_hb : 0 ≤ b ∧ b ≤ 8) (hf : 0 ≤ f ∧ f ≤ 5) (ha : RdI w A v) (hl : v.length = n) (_hn : n ≤ 1048577) :
    Calls Tryz.prog 39 #[.agg #[.int .i64 2, .int .i64 b, .int .i64 c, .int .i64 d, .int .i64 f], .slice A n k] w fun e w' => e = .returned (.bool (decide ((v.length : Int) = b) && (allR v 0 f && inR v.sum c d))) ∧ Ext w w' := by
  have B := Blk.new w 25 #[.int .i64 2, .int .i64 b, .int .i64 c, .int .i64 d, .int .i64 f]
  have hE := (Ext.refl w).alloc (.cells #[.int .i64 2, .int .i64 b, .int .i64 c, .int .i64 d, .int .i64 f] 25)
  have C := B.cells
  have hrd : ∀ N, RdI ((w.alloc (.cells #[.int .i64 2, .int .i64 b, .int .i64 c, .int .i64 d, .int .i64 f] 25)).drewN N) A v := fun N => ha.ext (hE.drewN N)
  rw [hl]
  by_cases hnb : (n : Int) = b
  · have hz : ((n : Int) == b) = true := by simp [hnb]
    rw [decide_eq_true hnb]
    cases hr : allR v 0 f
    · have hc1 := fun N => l1All_any A n k v 0 f _ (hrd N) hl (by unfold maxLen; omega)
      rw [hr] at hc1
      have HC1 := Lib.hid hc1
      have HNB := Lib.hid hnb
      clear hc1 hrd hnb
      go_enter Tryz.func39, Tryz.ntmps39
      go_wp2
      go_quiet ((go_at_call 64; exact quietL (HC1.out _)))
      go_wp2
      go_ret
      exact ⟨rfl, hE.drewN _⟩
    · have hc1 := fun N => l1All_any A n k v 0 f _ (hrd N) hl (by unfold maxLen; omega)
      rw [hr] at hc1
      have hc2 := fun N => vPlain_any A n k v _ (hrd N) hl (by omega) (allR_mono hr (by omega) (by omega))
      have HC1 := Lib.hid hc1
      have HC2 := Lib.hid hc2
      have HNB := Lib.hid hnb
      clear hc1 hc2 hrd hnb
      generalize v.sum = s at *
      go_enter Tryz.func39, Tryz.ntmps39
      go_wp2
      go_quiet ((first | (go_at_call 64; exact quietL (HC1.out _)) | (go_at_call 65; exact quietL (HC2.out _)) | (go_at_call 55; exact quietL (l1In_any _ _ _ _))))
      go_wp2
      go_ret
      exact ⟨rfl, hE.drewN _⟩
  · have hz : ((n : Int) == b) = false := by simp [hnb]
    rw [decide_eq_false hnb]
    clear hrd
    go_enter Tryz.func39, Tryz.ntmps39
    go_wp2
    go_quiet (fail)
    go_wp2
    go_ret
    exact ⟨rfl, hE.drewN _⟩
theorem vVote_any (a b c d f : Int) (A : Option Addr) (n k : Nat) (v : List Int) (w : World) (h : validCt a b c d f = true) (ha : RdI w A v) (hl : v.length = n) (hn : n ≤ 1048577) (hk : n ≤ k ∧ k ≤ maxLen) :
    Calls Tryz.prog 39 #[.agg #[.int .i64 a, .int .i64 b, .int .i64 c, .int .i64 d, .int .i64 f], .slice A n k] w fun e w' => e = .returned (.bool (voteB a b c d f v)) ∧ Ext w w' := by
  obtain ⟨h1, h2, h3, h4, h5, _⟩ := valid_kind h
  clear h
  rcases h1 with rfl | rfl | rfl | rfl
  · exact vVote1 b c d f A n k v w ⟨h2, h3⟩ ha hl hn
  · exact vVote2 b c d f A n k v w ⟨h2, h3⟩ ⟨h4, h5⟩ ha hl hn
  · exact vVote3 b c d f A n k v w ⟨h2, h3⟩ ha hl hn hk
  · exact vVote4 b c d f A n k v w ha hl hn
end Go.Proofs.YtnekpofaflpmdaaGreatDoor
