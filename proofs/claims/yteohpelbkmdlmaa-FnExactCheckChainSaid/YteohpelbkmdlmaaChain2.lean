/- Contracts for CheckChain: the program's and the reference's. -/
import Derived.Test.YteohpelbkmdlmaaProg
import Derived.Test.YteohpelbkmdlmaaChain
namespace Go.Proofs.Yteohpelbkmdlmaa
open Go.RowKit

/-- The first place at which two lists differ. -/
def fdiff : List Int → List Int → Nat
  | x :: xs, y :: ys => if x = y then fdiff xs ys + 1 else 0
  | _, _ => 0
theorem fdiff_same : ∀ l : List Int, fdiff l l = l.length
  | [] => rfl
  | x :: l => by simp [fdiff, fdiff_same l]
theorem fdiff_at {a b : List Int} {j : Nat} (hj : j < a.length) (hj' : j < b.length) (ht : a.take j = b.take j) (hne : a[j] ≠ b[j]) : fdiff a b = j := by
  induction a generalizing b j with
  | nil => simp at hj
  | cons x xs ih =>
    match b, j with
    | [], _ => simp at hj'
    | y :: ys, 0 => simp only [List.getElem_cons_zero] at hne; simp [fdiff, hne]
    | y :: ys, j + 1 =>
      simp only [List.take_succ_cons, List.cons.injEq] at ht
      simp only [List.getElem_cons_succ] at hne
      rw [fdiff, if_pos ht.1, ih (by simpa using hj) (by simpa using hj') ht.2 hne]
def ckOk (r ch : List Int) : Bool := recB r && (recB ch && decide (ch.length = r.length))
def ckVal (r ch : List Int) : Int := if ckOk r ch then fdiff (chL r r.length) ch else 0

set_option maxHeartbeats 1000000 in
theorem sCheckChain_any (A : Option Addr) (n c : Nat) (r : List Int) (B : Option Addr) (m d : Nat) (ch : List Int) (w : World) (ha : RdI w A r) (hl : r.length = n) (hn : n ≤ 1048576) (_hc : n ≤ c ∧ c ≤ maxLen) (hb : RdI w B ch) (hm : ch.length = m) (hm2 : m ≤ 1048576) (_hd : m ≤ d ∧ d ≤ maxLen) :
    Calls Try.prog 34 #[.slice A n c, .slice B m d] w fun e w' => e = .returned (.tuple #[.int .i64 (ckVal r ch), .bool (ckOk r ch)]) ∧ Ext w w' := by
  subst hl hm
  cases h1 : recB r
  · have h0 : ckOk r ch = false := by simp [ckOk, h1]
    have hv : ckVal r ch = 0 := by simp [ckVal, h0]
    rw [h0, hv]; clear h0 hv
    go_enter Try.func34, Try.ntmps34
    go_wp2_with fail
    refine (dReceipts_any _ _ _ r _ ha rfl (by unfold maxLen; omega)).mono ?_
    rintro e w1 ⟨he, rfl⟩
    rw [h1] at he; subst he
    go_wp2
    go_ret2
    exact ⟨rfl, Ext.refl _⟩
  cases h2 : recB ch
  · have h0 : ckOk r ch = false := by simp [ckOk, h2]
    have hv : ckVal r ch = 0 := by simp [ckVal, h0]
    rw [h0, hv]; clear h0 hv
    go_enter Try.func34, Try.ntmps34
    go_wp2_with fail
    refine (dReceipts_any _ _ _ r _ ha rfl (by unfold maxLen; omega)).mono ?_
    rintro e w1 ⟨he, rfl⟩
    rw [h1] at he; subst he
    go_wp2_with fail
    refine (dReceipts_any _ _ _ ch _ hb rfl (by unfold maxLen; omega)).mono ?_
    rintro e w1 ⟨he, rfl⟩
    rw [h2] at he; subst he
    go_wp2
    go_ret2
    exact ⟨rfl, Ext.refl _⟩
  by_cases h3 : ch.length = r.length
  · have h0 : ckOk r ch = true := by simp [ckOk, h1, h2, h3]
    have hv : ckVal r ch = fdiff (chL r r.length) ch := by simp [ckVal, h0]
    rw [h0, hv]; clear h0 hv
    have hz : ((ch.length : Int) != (r.length : Int)) = false := by simp [h3]
    have h24 : r.length ≤ 24 := by simp only [recB, Bool.and_eq_true, decide_eq_true_eq] at h1; exact h1.1
    have H1 := Lib.hid h1
    have H2 := Lib.hid h2
    have H3 := Lib.hid h3
    clear h1 h2 h3
    go_enter Try.func34, Try.ntmps34
    go_wp2_with fail
    refine (dReceipts_any _ _ _ r _ ha rfl (by unfold maxLen; omega)).mono ?_
    rintro e w1 ⟨he, rfl⟩
    rw [H1.out] at he; subst he
    go_wp2_with fail
    refine (dReceipts_any _ _ _ ch _ hb rfl (by unfold maxLen; omega)).mono ?_
    rintro e w1 ⟨he, rfl⟩
    rw [H2.out] at he; subst he
    go_wp2_with fail
    refine (dChain_any _ _ _ r _ ha rfl H1.out).mono ?_
    rintro e w2 ⟨A', c', rfl, hO, hE⟩
    go_wp2
    go_loop [26] (fun i => ∃ j : Nat, j ≤ r.length ∧ i = .int .i64 j ∧ Hid ((chL r r.length).take j = ch.take j)) (fun i => r.length - (intOf i).toNat)
    case atStart => exact ⟨0, Nat.zero_le _, rfl, rfl⟩
    case round =>
      obtain ⟨j, hj, rfl, HT⟩ := hrel
      have hll := chL_length r r.length
      by_cases hlt : j < r.length
      · have hj1 : j < (chL r r.length).length := by rw [hll]; exact hlt
        have hj2 : j < ch.length := by rw [H3.out]; exact hlt
        obtain ⟨ad, rfl, hc⟩ := hO.rd.at_ hj1
        obtain ⟨bd, rfl, hd⟩ := (hb.ext hE).at_ hj2
        by_cases he : (chL r r.length)[j] = ch[j]
        · have he' : (ch[j] != (chL r r.length)[j]) = false := by simp [he]
          have hs : (chL r r.length).take (j + 1) = ch.take (j + 1) := by rw [List.take_succ_eq_append_getElem hj1, List.take_succ_eq_append_getElem hj2, HT.out, he]
          have HS := Lib.hid hs
          clear he hs
          generalize (chL r r.length)[j] = x at *
          generalize ch[j] = y at *
          have HL := Lib.hid hll
          clear hll
          go_wp2
          go_round
          case rel => exact ⟨j + 1, by omega, by go_num, HS.out⟩
          case measure => simp [intOf]; omega
        · have he' : (ch[j] != (chL r r.length)[j]) = true := by simp; exact fun h => he h.symm
          have hf := fdiff_at hj1 hj2 HT.out he
          have HF := Lib.hid hf
          clear he hf
          generalize (chL r r.length)[j] = x at *
          generalize ch[j] = y at *
          have HL := Lib.hid hll
          clear hll
          go_wp2
          go_ret2
          exact ⟨by rw [HF.out]; rfl, hE⟩
      · obtain rfl : j = r.length := by omega
        have hf : fdiff (chL r r.length) ch = r.length := by
          have h1 := HT.out
          rw [List.take_of_length_le (by rw [hll]; exact Nat.le_refl _), List.take_of_length_le (by rw [H3.out]; exact Nat.le_refl _)] at h1
          rw [← h1, fdiff_same, hll]
        have HF := Lib.hid hf
        have HL := Lib.hid hll
        clear hf hll
        go_wp2
        go_ret2
        exact ⟨by rw [HF.out, ← H3.out]; rfl, hE⟩
  · have h0 : ckOk r ch = false := by simp [ckOk, h3]
    have hv : ckVal r ch = 0 := by simp [ckVal, h0]
    rw [h0, hv]; clear h0 hv
    have hz : ((ch.length : Int) != (r.length : Int)) = true := by simp; omega
    go_enter Try.func34, Try.ntmps34
    go_wp2_with fail
    refine (dReceipts_any _ _ _ r _ ha rfl (by unfold maxLen; omega)).mono ?_
    rintro e w1 ⟨he, rfl⟩
    rw [h1] at he; subst he
    go_wp2_with fail
    refine (dReceipts_any _ _ _ ch _ hb rfl (by unfold maxLen; omega)).mono ?_
    rintro e w1 ⟨he, rfl⟩
    rw [h2] at he; subst he
    go_wp2
    go_ret2
    exact ⟨rfl, Ext.refl _⟩

set_option maxHeartbeats 1000000 in
theorem iCheckChain_any (A : Option Addr) (n c : Nat) (r : List Int) (B : Option Addr) (m d : Nat) (ch : List Int) (w : World) (ha : RdI w A r) (hl : r.length = n) (hn : n ≤ 1048576) (hc : n ≤ c ∧ c ≤ maxLen) (hb : RdI w B ch) (hm : ch.length = m) (hm2 : m ≤ 1048576) (_hd : m ≤ d ∧ d ≤ maxLen) :
    Calls Try.prog 35 #[.slice A n c, .slice B m d] w fun e w' => e = .returned (.tuple #[.int .i64 (ckVal r ch), .bool (ckOk r ch)]) ∧ Ext w w' := by
  subst hl hm
  cases h1 : recB r
  · have h0 : ckOk r ch = false := by simp [ckOk, h1]
    have hv : ckVal r ch = 0 := by simp [ckVal, h0]
    have hr : chR r = none := by simp [chR, h1]
    rw [h0, hv]; clear h0 hv
    go_enter Try.func35, Try.ntmps35
    go_wp2_with fail
    refine (iChainOf_any _ _ _ r _ ha rfl (by omega) hc).mono ?_
    rintro e w1 ⟨A', n', c', he, hO, hE⟩
    rw [hr] at he; subst he
    clear hr
    go_wp2
    go_ret2
    exact ⟨rfl, hE⟩
  have hr : chR r = some (chL r r.length) := by simp [chR, h1]
  have HR := Lib.hid hr
  clear hr
  by_cases h3 : ch.length = r.length
  · have hz : ((ch.length : Int) != (r.length : Int)) = false := by simp [h3]
    cases h2 : recB ch
    · have h0 : ckOk r ch = false := by simp [ckOk, h2]
      have hv : ckVal r ch = 0 := by simp [ckVal, h0]
      rw [h0, hv]; clear h0 hv
      have H3 := Lib.hid h3
      clear h3
      go_enter Try.func35, Try.ntmps35
      go_wp2_with fail
      refine (iChainOf_any _ _ _ r _ ha rfl (by omega) hc).mono ?_
      rintro e w1 ⟨A', n', c', he, hO, hE⟩
      rw [HR.out] at he; subst he
      go_wp2_with fail
      refine (areReceipts_any _ _ _ ch _ (hb.ext hE) rfl (by unfold maxLen; omega)).mono ?_
      rintro e w2 ⟨he, hE2⟩
      rw [h2] at he; subst he
      go_wp2
      go_ret2
      exact ⟨rfl, hE.trans hE2⟩
    · have h0 : ckOk r ch = true := by simp [ckOk, h1, h2, h3]
      have hv : ckVal r ch = fdiff (chL r r.length) ch := by simp [ckVal, h0]
      rw [h0, hv]; clear h0 hv
      have h24 : r.length ≤ 24 := by simp only [recB, Bool.and_eq_true, decide_eq_true_eq] at h1; exact h1.1
      have H1 := Lib.hid h1
      have H2 := Lib.hid h2
      have H3 := Lib.hid h3
      clear h1 h2 h3
      go_enter Try.func35, Try.ntmps35
      go_wp2_with fail
      refine (iChainOf_any _ _ _ r _ ha rfl (by omega) hc).mono ?_
      rintro e w1 ⟨A', n', c', he, hO, hE⟩
      rw [HR.out] at he hO; subst he
      rw [Option.getD_some] at hO
      have hnn := hO.len
      rw [chL_length] at hnn
      subst hnn
      go_wp2_with fail
      refine (areReceipts_any _ _ _ ch _ (hb.ext hE) rfl (by unfold maxLen; omega)).mono ?_
      rintro e w2 ⟨he, hE2⟩
      rw [H2.out] at he; subst he
      have hO := hO.ext hE2
      have hE := hE.trans hE2
      go_wp2
      go_loopw [30] (fun i wr => ∃ j N : Nat, j ≤ r.length ∧ i = .int .i64 j ∧ wr = w2.drewN N ∧ Hid ((chL r r.length).take j = ch.take j)) (fun i _ => r.length - (intOf i).toNat)
      case atStart => exact ⟨0, 0, Nat.zero_le _, rfl, rfl, rfl⟩
      case round =>
        obtain ⟨j, N, hj, rfl, rfl, HT⟩ := hrel
        have hll := chL_length r r.length
        by_cases hlt : j < r.length
        · have hj1 : j < (chL r r.length).length := by rw [hll]; exact hlt
          have hj2 : j < ch.length := by rw [H3.out]; exact hlt
          obtain ⟨ad, rfl, hcc⟩ := hO.rd.at_ hj1
          obtain ⟨bd, rfl, hd⟩ := (hb.ext hE).at_ hj2
          by_cases he : (chL r r.length)[j] = ch[j]
          · have he' : ((chL r r.length)[j] != ch[j]) = false := by simp [he]
            have hs : (chL r r.length).take (j + 1) = ch.take (j + 1) := by rw [List.take_succ_eq_append_getElem hj1, List.take_succ_eq_append_getElem hj2, HT.out, he]
            have HS := Lib.hid hs
            clear he hs
            generalize (chL r r.length)[j] = x at *
            generalize ch[j] = y at *
            have HL := Lib.hid hll
            clear hll
            go_wp2
            go_quiet (fail)
            go_wp2
            go_roundw
            case rel => exact ⟨j + 1, _, by omega, by go_num, rfl, HS.out⟩
            case measure => simp [intOf]; omega
          · have he' : ((chL r r.length)[j] != ch[j]) = true := by simp; exact he
            have hf := fdiff_at hj1 hj2 HT.out he
            have HF := Lib.hid hf
            clear he hf
            generalize (chL r r.length)[j] = x at *
            generalize ch[j] = y at *
            have HL := Lib.hid hll
            clear hll
            go_wp2
            go_quiet (fail)
            go_wp2
            go_ret2
            exact ⟨by rw [HF.out]; rfl, (hE.drewN _).drewN _⟩
        · obtain rfl : j = r.length := by omega
          have hf : fdiff (chL r r.length) ch = r.length := by
            have h1 := HT.out
            rw [List.take_of_length_le (by rw [hll]; exact Nat.le_refl _), List.take_of_length_le (by rw [H3.out]; exact Nat.le_refl _)] at h1
            rw [← h1, fdiff_same, hll]
          have HF := Lib.hid hf
          have HL := Lib.hid hll
          clear hf hll
          go_wp2
          go_ret2
          exact ⟨by rw [HF.out]; rfl, hE.drewN _⟩
  · have h0 : ckOk r ch = false := by simp [ckOk, h3]
    have hv : ckVal r ch = 0 := by simp [ckVal, h0]
    rw [h0, hv]; clear h0 hv
    have hz : ((ch.length : Int) != (r.length : Int)) = true := by simp; omega
    go_enter Try.func35, Try.ntmps35
    go_wp2_with fail
    refine (iChainOf_any _ _ _ r _ ha rfl (by omega) hc).mono ?_
    rintro e w1 ⟨A', n', c', he, hO, hE⟩
    rw [HR.out] at he; subst he
    go_wp2
    go_ret2
    exact ⟨rfl, hE⟩
end Go.Proofs.Yteohpelbkmdlmaa
