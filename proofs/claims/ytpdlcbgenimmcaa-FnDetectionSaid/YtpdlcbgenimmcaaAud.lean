/- Contracts for SampleAudits: the program's and the reference's. -/
import Derived.Test.YtpdlcbgenimmcaaProg
import Derived.Test.YtpdlcbgenimmcaaAudP
import Derived.Test.YtpdlcbgenimmcaaSrt
import Derived.Test.YtpdlcbgenimmcaaDig
namespace Go.Proofs.Ytpdlcbgenimmcaa
open Go.RowKit

set_option maxRecDepth 100000 in
set_option maxHeartbeats 2000000 in
theorem l1Put_any (base : Nat) (A : Option Addr) (n c : Nat) (l : List Int) (x : Int) (w : World) (ha : OwnI w base 3 A n c l) (hn : n ≤ 100000) (hb : base ≤ w.heap.size) :
    Calls Try.prog 81 #[.slice A n c, .int .i64 x] w fun e w' => ∃ A' n' c', e = .returned (.slice A' n' c') ∧ OwnI w' base 3 A' n' c' (putL l x) ∧ n' ≤ n + 1 ∧ Ext w w' := by
  have HL := Lib.hid ha.len
  have hcap := ha.cap
  obtain ⟨R, hR⟩ : ∃ R, putL l x = R := ⟨_, rfl⟩
  rw [hR]
  have HR := Lib.hid hR
  clear hR
  go_enter Try.func81, Try.ntmps81
  go_wp2
  go_loop [5] (fun i => ∃ k : Nat, k ≤ n ∧ i = .int .i64 k ∧ Hid (∀ i, (h : i < l.length) → i < k → l[i] < x)) (fun i => n - (intOf i).toNat)
  case atStart => exact ⟨0, Nat.zero_le _, rfl, Lib.hid fun i _ h => absurd h (by omega)⟩
  case round =>
    obtain ⟨k, hk, rfl, HK⟩ := hrel
    have hO0 : OwnI (w.alloc (.cells #[] 3)) w.heap.size 3 (some ⟨w.heap.size, 0, none⟩) 0 0 [] := ownI_lit [] rfl rfl (Nat.le_refl _) (Nat.zero_le _)
    have hE0 := (Ext.refl w).alloc (.cells #[] 3)
    by_cases hlt : k < n
    · have hlt' : k < l.length := by rw [HL.out]; exact hlt
      obtain ⟨ad, rfl, hc⟩ := ha.rd.at_ hlt'
      have hgd : l.getD k (x + 1) = l[k] := by simp [List.getD, hlt']
      have hnxt : ∀ i, (h : i < l.length) → i < k + 1 → l[k] < x → l[i] < x := fun i h hi hy => by
        by_cases e : i = k
        · subst e; exact hy
        · exact HK.out i h (by omega)
      have hput := fun h : ¬ l[k] < x => putL_at x l k HK.out (by rw [HL.out]; exact hk) (fun _ => h)
      rw [hgd] at hput
      generalize l[k] = y at *
      have HN := Lib.hid hnxt
      have HP := Lib.hid hput
      clear hgd hnxt hput
      by_cases hy : y < x
      · go_wp2
        go_round
        case rel => exact ⟨k + 1, by omega, by go_num, Lib.hid fun i h hi => HN.out i h hi hy⟩
        case measure => simp [intOf]; omega
      · have HP2 := Lib.hid (HP.out hy)
        by_cases hz : y = x
        · have hz2 : (y == x) = true := by simp [hz]
          have hl2 : l = R := by rw [← HR.out, HP2.out, if_pos hz]
          have ha2 := ha
          rw [hl2] at ha2
          clear hl2
          go_wp2
          go_ret
          exact ⟨_, _, _, rfl, ha2, by omega, Ext.refl _⟩
        · have hz2 : (y == x) = false := by simp [hz]
          have hl2 : l.take k ++ x :: l.drop k = R := by rw [← HR.out, HP2.out, if_neg hz]
          have hR1 : RdI (w.alloc (.cells #[] 3)) (some ad) (l.take k) := (ha.rd.ext hE0).take k
          have hL1 : (l.take k).length = k := by rw [List.length_take, HL.out]; omega
          have hR2 : RdI w (some (ad.add k)) (l.drop k) := by
            have := ha.rd.drop (cap := c) k (by rw [HL.out]; omega)
            rwa [if_neg (by omega)] at this
          have hL2 : (l.drop k).length = n - k := by rw [List.length_drop, HL.out]
          have hck : ¬ c = k := by omega
          have hck2 : (n : Int) - k = ((n - k : Nat) : Int) := by omega
          generalize l.take k = l1 at *
          generalize l.drop k = l2 at *
          have HL1 := Lib.hid hL1
          have HRR := Lib.hid hl2
          clear hl2
          have HL2 := Lib.hid hL2
          clear hL1 hL2
          go_wp2_with (first
            | (at_builtin; refine wpList_appL intSl rfl _ _ rfl hO0 rfl hR1 HL1.out rfl (by omega) hE0.size ?_; intro A2 d2 w2 hO2 hb2; rw [List.nil_append, Nat.zero_add] at hO2; have hE2 := hE0.then hb2 (Nat.le_refl _))
            | (at_builtin; refine wpList_app1 intSl rfl _ _ rfl hO2 rfl rfl (by omega) hE2.size ?_; intro A3 d3 w3 hO3 hb3; have hE3 := hE2.then hb3 (Nat.le_refl _))
            | (at_builtin; refine wpList_appL intSl rfl _ _ rfl hO3 rfl (hR2.ext hE3) HL2.out rfl (by omega) hE3.size ?_; intro A4 d4 w4 hO4 hb4))
          go_ret
          rw [List.append_assoc, List.singleton_append, HRR.out] at hO4
          exact ⟨_, _, _, rfl, hO4.more hb, by omega, hE3.then hb4 (Nat.le_refl _)⟩
    · obtain rfl : k = n := by omega
      have hput := putL_at x l k HK.out (by rw [HL.out]; exact hk) (fun h => absurd h (by rw [HL.out]; omega))
      rw [show l.getD k (x + 1) = x + 1 by rw [List.getD, List.getElem?_eq_none (by rw [HL.out]; omega)]; rfl, if_neg (by omega), List.take_of_length_le (by rw [HL.out]; omega), List.drop_eq_nil_of_le (by rw [HL.out]; omega)] at hput
      rw [HR.out] at hput
      have HRR := Lib.hid hput
      clear hput
      have hR1 : RdI (w.alloc (.cells #[] 3)) A l := ha.rd.ext hE0
      go_wp2_with (first
        | (at_builtin; refine wpList_appL intSl rfl _ _ rfl hO0 rfl hR1 HL.out rfl (by omega) hE0.size ?_; intro A2 d2 w2 hO2 hb2; rw [List.nil_append, Nat.zero_add] at hO2; have hE2 := hE0.then hb2 (Nat.le_refl _))
        | (at_builtin; refine wpList_app1 intSl rfl _ _ rfl hO2 rfl rfl (by omega) hE2.size ?_; intro A3 d3 w3 hO3 hb3; have hE3 := hE2.then hb3 (Nat.le_refl _))
        | (at_builtin; refine wpList_appL intSl rfl _ _ rfl hO3 rfl (RdI.nil _ _) (show ([] : List Int).length = 0 from rfl) rfl (by omega) hE3.size ?_; intro A4 d4 w4 hO4 hb4))
      all_goals
        go_ret
        rw [List.append_nil, ← HRR.out] at hO4
        exact ⟨_, _, _, rfl, hO4.more hb, by omega, hE3.then hb4 (Nat.le_refl _)⟩
theorem au_lit {s n k : Int} (h : auG s n k = true) {j : Nat} (hj : j ≤ 100) : allR [s, (j : Int)] 0 4611686018427387903 = true := by
  simp only [auG, Bool.and_eq_true] at h
  have h1 := inR_iff.1 h.1
  rw [allR_iff]
  intro x hx
  simp only [List.mem_cons, List.not_mem_nil, or_false] at hx
  rcases hx with rfl | rfl
  · exact h1
  · omega
theorem au_shuf (s : Int) {n : Nat} (h1 : 1 ≤ n) (h2 : n ≤ 24) : shufR (n : Int) (auC s (n - 1)) = some (auP s n) := by
  unfold shufR
  rw [if_pos]
  · rfl
  · rw [Bool.and_eq_true, Bool.and_eq_true]
    refine ⟨inR_iff.2 ⟨by omega, by omega⟩, decide_eq_true (by rw [auC_length]; omega), ?_⟩
    rw [List.all_eq_true]
    intro x hx
    exact decide_eq_true (auC_nn s _ x hx)
/-- The places 1 to k of the reference's list. -/
def auT (s : Int) (n j : Nat) : List Int := ((auP s n).take j).foldl putL []
theorem auT_succ (s : Int) {n j : Nat} (h : j < (auP s n).length) : auT s n (j + 1) = putL (auT s n j) (auP s n)[j] := by
  unfold auT
  rw [List.take_succ_eq_append_getElem h, List.foldl_append]
  rfl
set_option maxRecDepth 100000 in
set_option maxHeartbeats 4000000 in
theorem sSampleAudits_any (s n k : Int) (w : World) :
    Calls Try.prog 17 #[.int .i64 s, .int .i64 n, .int .i64 k] w fun e w' => ResI 3 w (auR s n k) e w' := by
  cases h1 : inR s 0 4611686018427387903
  · have hr : auR s n k = none := by simp [auR, auG, h1]
    rw [hr]; clear hr
    go_enter Try.func17, Try.ntmps17
    go_wp2_with fail
    refine (l3Digest_any s _).mono ?_
    rintro e w1 ⟨he, rfl⟩
    rw [h1] at he; subst he
    go_wp2
    go_ret2
    exact ⟨_, _, _, rfl, OwnI.nil _ _ _, Ext.refl _⟩
  cases h2 : inR n 1 24
  · have hr : auR s n k = none := by simp [auR, auG, h2]
    rw [hr]; clear hr
    go_enter Try.func17, Try.ntmps17
    go_wp2_with fail
    refine (l3Digest_any s _).mono ?_
    rintro e w1 ⟨he, rfl⟩
    rw [h1] at he; subst he
    go_wp2_with fail
    refine (l1In_any _ _ _ _).mono ?_
    rintro e w1 ⟨he, rfl⟩
    rw [h2] at he; subst he
    go_wp2
    go_ret2
    exact ⟨_, _, _, rfl, OwnI.nil _ _ _, Ext.refl _⟩
  cases h3 : inR k 0 n
  · have hr : auR s n k = none := by simp [auR, auG, h3]
    rw [hr]; clear hr
    go_enter Try.func17, Try.ntmps17
    go_wp2_with fail
    refine (l3Digest_any s _).mono ?_
    rintro e w1 ⟨he, rfl⟩
    rw [h1] at he; subst he
    go_wp2_with fail
    refine (l1In_any _ _ _ _).mono ?_
    rintro e w1 ⟨he, rfl⟩
    rw [h2] at he; subst he
    go_wp2_with fail
    refine (l1In_any _ _ _ _).mono ?_
    rintro e w1 ⟨he, rfl⟩
    rw [h3] at he; subst he
    go_wp2
    go_ret2
    exact ⟨_, _, _, rfl, OwnI.nil _ _ _, Ext.refl _⟩
  have hG : auG s n k = true := by simp [auG, h1, h2, h3]
  have i2 := inR_iff.1 h2
  have i3 := inR_iff.1 h3
  obtain ⟨n, rfl⟩ : ∃ m : Nat, n = (m : Int) + 1 := ⟨(n - 1).toNat, by omega⟩
  obtain ⟨k, rfl⟩ := Int.eq_ofNat_of_zero_le i3.1
  have hr : auR s ((n : Int) + 1) k = some (auL s (n + 1) k) := by
    unfold auR
    rw [if_pos hG, Int.toNat_natCast, show ((n : Int) + 1).toNat = n + 1 by omega]
  rw [hr]; clear hr
  have HG := Lib.hid hG
  have H1 := Lib.hid h1
  have H2 := Lib.hid h2
  have H3 := Lib.hid h3
  clear hG h1 h2 h3
  have hn24 : n ≤ 23 := by omega
  have hkn : k ≤ n + 1 := by omega
  go_enter Try.func17, Try.ntmps17
  go_wp2_with fail
  refine (l3Digest_any s _).mono ?_
  rintro e w1 ⟨he, rfl⟩
  rw [H1.out] at he; subst he
  go_wp2_with fail
  refine (l1In_any _ _ _ _).mono ?_
  rintro e w1 ⟨he, rfl⟩
  rw [H2.out] at he; subst he
  go_wp2_with fail
  refine (l1In_any _ _ _ _).mono ?_
  rintro e w1 ⟨he, rfl⟩
  rw [H3.out] at he; subst he
  go_wp2
  go_loopw [8, 9] (fun v i wr => ∃ (j : Nat) (A' : Option Addr) (c' : Nat), j ≤ n ∧ i = .int .i64 j ∧ v = .slice A' j c' ∧ OwnI wr w.heap.size 3 A' j c' (auC s j) ∧ Ext w wr) (fun _ i _ => n - (intOf i).toNat)
  case atStart => exact ⟨0, _, _, Nat.zero_le _, rfl, rfl, OwnI.nil _ _ _, Ext.refl _⟩
  case round =>
    obtain ⟨j, A', c', hj, rfl, rfl, hO, hE⟩ := hrel
    by_cases hlt : j < n
    · have hO3 : OwnI (wr.alloc (.cells #[.int .i64 s, .int .i64 j] 3)) wr.heap.size 3 (some ⟨wr.heap.size, 0, none⟩) 2 2 [s, (j : Int)] :=
        ownI_lit (n := 2) [s, (j : Int)] rfl rfl (Nat.le_refl _) (by unfold maxLen; simp)
      have HL := Lib.hid (au_lit HG.out (show j ≤ 100 by omega))
      have HS := Lib.hid (auC_succ s j)
      have hx0 := (Ext.refl wr).alloc (.cells #[.int .i64 s, .int .i64 j] 3)
      obtain ⟨x, hx⟩ : ∃ x, hInt (labL auW [s, (j : Int)]) = x := ⟨_, rfl⟩
      have HX := Lib.hid hx
      clear hx
      go_wp2_with fail
      refine (hLabelled_any auW _ 2 _ [s, (j : Int)] _ (by decide) hO3.rd rfl (by omega) HL.out).mono ?_
      rintro e w2 ⟨he, hE2⟩
      rw [HX.out] at he; subst he
      have hE3 : Ext w w2 := hE.trans (hx0.trans hE2)
      have hO4 := hO.ext (hx0.trans hE2)
      have hsz := hE3.size
      go_wp2_with (at_builtin; refine wpList_app1 intSl rfl _ _ rfl hO4 rfl rfl (by omega) hsz ?_; intro A2 c2 w4 hO2 hb2)
      rw [← HX.out, HS.out] at hO2
      go_roundw
      case rel => exact ⟨j + 1, A2, c2, by omega, by go_num, rfl, hO2, hE3.then hb2 (Nat.le_refl _)⟩
      case measure => simp [intOf]; omega
    · obtain rfl : j = n := by omega
      have HSH := Lib.hid (au_shuf s (n := j + 1) (by omega) (by omega))
      have e1 : (((j + 1 : Nat) : Int)) = (j : Int) + 1 := by omega
      have HC := Lib.hid (auC_length s j)
      obtain ⟨P, hP⟩ : ∃ P, auP s (j + 1) = P := ⟨_, rfl⟩
      have HP := Lib.hid hP
      have hPl : P.length = j + 1 := by rw [← hP, auP_length]
      clear hP
      go_wp2_with fail
      refine (sShuffleCoins_any ((j : Int) + 1) A' j c' (auC s j) _ hO.rd HC.out (by omega) hO.cap).mono ?_
      rintro e w2 ⟨A2, n2, c2, he, hO2, hE2⟩
      have hs2 := HSH.out
      rw [e1, Nat.add_sub_cancel] at hs2
      rw [hs2, HP.out] at he hO2
      rw [Option.isSome_some] at he
      rw [Option.getD_some] at hO2
      subst he
      have hn2 : n2 = j + 1 := by rw [← hO2.len, hPl]
      subst hn2
      have hE3 := hE.trans hE2
      have hcap2 := hO2.cap
      have HPL := Lib.hid hPl
      clear hs2 hPl
      go_wp2
      go_loopw [12, 52] (fun v i wr => ∃ (m : Nat) (A' : Option Addr) (n' c' : Nat), m ≤ k ∧ i = .int .i64 m ∧ v = .slice A' n' c' ∧ n' ≤ m ∧ OwnI wr w.heap.size 3 A' n' c' (auT s (j + 1) m) ∧ Ext w2 wr) (fun _ i _ => k - (intOf i).toNat)
      case atStart => exact ⟨0, _, _, _, Nat.zero_le _, rfl, rfl, Nat.le_refl _, OwnI.nil _ _ _, Ext.refl _⟩
      case round =>
        obtain ⟨m, A3, n3, c3, hm, rfl, rfl, hnm, hO3, hE4⟩ := hrel
        by_cases hlt2 : m < k
        · have hmP : m < P.length := by rw [HPL.out]; omega
          obtain ⟨ad, rfl, hc⟩ := (hO2.rd.ext hE4).at_ hmP
          have hsu : auT s (j + 1) (m + 1) = putL (auT s (j + 1) m) P[m] := by
            rw [auT_succ s (by rw [HP.out]; exact hmP)]; simp only [HP.out]
          generalize P[m] = x at *
          have HSU := Lib.hid hsu
          clear hsu
          have hsz := (hE3.trans hE4).size
          go_wp2_with fail
          refine (l1Put_any w.heap.size A3 n3 c3 (auT s (j + 1) m) x _ hO3 (by omega) hsz).mono ?_
          rintro e w4 ⟨A5, n5, c5, rfl, hO5, hn5, hE5⟩
          rw [← HSU.out] at hO5
          go_wp2
          go_roundw
          case rel => exact ⟨m + 1, A5, n5, c5, by omega, by go_num, rfl, by omega, hO5, hE4.trans hE5⟩
          case measure => simp [intOf]; omega
        · obtain rfl : m = k := by omega
          go_wp2
          go_ret2
          have hfin : auT s (j + 1) m = auL s (j + 1) m := auL_put s (by omega)
          rw [hfin] at hO3
          exact ⟨_, _, _, rfl, hO3, hE3.trans hE4⟩
set_option maxRecDepth 100000 in
set_option maxHeartbeats 4000000 in
theorem iSampleAudits_any (s n k : Int) (w : World) :
    Calls Try.prog 18 #[.int .i64 s, .int .i64 n, .int .i64 k] w fun e w' => ResI 3 w (auR s n k) e w' := by
  cases h1 : inR s 0 4611686018427387903
  · have hr : auR s n k = none := by simp [auR, auG, h1]
    rw [hr]; clear hr
    go_enter Try.func18, Try.ntmps18
    go_wp2_with fail
    refine (isDigest_any s _).mono ?_
    rintro e w1 ⟨he, hE1⟩
    rw [h1] at he; subst he
    go_wp2
    go_ret2
    exact ⟨_, _, _, rfl, OwnI.nil _ _ _, hE1⟩
  cases h2 : inR n 1 24
  · have hr : auR s n k = none := by simp [auR, auG, h2]
    rw [hr]; clear hr
    go_enter Try.func18, Try.ntmps18
    go_wp2_with fail
    refine (isDigest_any s _).mono ?_
    rintro e w1 ⟨he, hE1⟩
    rw [h1] at he; subst he
    go_wp2_with fail
    refine (within_any _ _ _ _).mono ?_
    rintro e w2 ⟨he, rfl⟩
    rw [h2] at he; subst he
    go_wp2
    go_ret2
    exact ⟨_, _, _, rfl, OwnI.nil _ _ _, hE1⟩
  cases h3 : inR k 0 n
  · have hr : auR s n k = none := by simp [auR, auG, h3]
    rw [hr]; clear hr
    go_enter Try.func18, Try.ntmps18
    go_wp2_with fail
    refine (isDigest_any s _).mono ?_
    rintro e w1 ⟨he, hE1⟩
    rw [h1] at he; subst he
    go_wp2_with fail
    refine (within_any _ _ _ _).mono ?_
    rintro e w2 ⟨he, rfl⟩
    rw [h2] at he; subst he
    go_wp2_with fail
    refine (within_any _ _ _ _).mono ?_
    rintro e w2 ⟨he, rfl⟩
    rw [h3] at he; subst he
    go_wp2
    go_ret2
    exact ⟨_, _, _, rfl, OwnI.nil _ _ _, hE1⟩
  have hG : auG s n k = true := by simp [auG, h1, h2, h3]
  have i2 := inR_iff.1 h2
  have i3 := inR_iff.1 h3
  obtain ⟨n, rfl⟩ : ∃ m : Nat, n = (m : Int) + 1 := ⟨(n - 1).toNat, by omega⟩
  obtain ⟨k, rfl⟩ := Int.eq_ofNat_of_zero_le i3.1
  have hr : auR s ((n : Int) + 1) k = some (auL s (n + 1) k) := by
    unfold auR
    rw [if_pos hG, Int.toNat_natCast, show ((n : Int) + 1).toNat = n + 1 by omega]
  rw [hr]; clear hr
  have HG := Lib.hid hG
  have H1 := Lib.hid h1
  have H2 := Lib.hid h2
  have H3 := Lib.hid h3
  clear hG h1 h2 h3
  have hn24 : n ≤ 23 := by omega
  have hkn : k ≤ n + 1 := by omega
  go_enter Try.func18, Try.ntmps18
  go_wp2_with fail
  refine (isDigest_any s _).mono ?_
  rintro e w1 ⟨he, hE1⟩
  rw [H1.out] at he; subst he
  go_wp2_with fail
  refine (within_any _ _ _ _).mono ?_
  rintro e w2 ⟨he, rfl⟩
  rw [H2.out] at he; subst he
  go_wp2_with fail
  refine (within_any _ _ _ _).mono ?_
  rintro e w2 ⟨he, rfl⟩
  rw [H3.out] at he; subst he
  go_wp2
  go_loopw [8, 30] (fun v i wr => ∃ (j : Nat) (A' : Option Addr) (c' : Nat), j ≤ n ∧ i = .int .i64 j ∧ v = .slice A' j c' ∧ OwnI wr w1.heap.size 3 A' j c' (auC s j) ∧ Ext w1 wr) (fun _ i _ => n - (intOf i).toNat)
  case atStart => exact ⟨0, _, _, Nat.zero_le _, rfl, rfl, ownI_lit [] rfl rfl (Nat.le_refl _) (Nat.zero_le _), (Ext.refl _).alloc _⟩
  case round =>
    obtain ⟨j, A', c', hj, rfl, rfl, hO, hE⟩ := hrel
    by_cases hlt : j < n
    · have hO3 : OwnI (wr.alloc (.cells #[.int .i64 s, .int .i64 j] 3)) wr.heap.size 3 (some ⟨wr.heap.size, 0, none⟩) 2 2 [s, (j : Int)] :=
        ownI_lit (n := 2) [s, (j : Int)] rfl rfl (Nat.le_refl _) (by unfold maxLen; simp)
      have hl := au_lit HG.out (show j ≤ 100 by omega)
      have hok : hlOk auW [s, (j : Int)] = true := by unfold hlOk; rw [hl]; rfl
      have hval : hlVal auW [s, (j : Int)] = hInt (labL auW [s, (j : Int)]) := by rw [hlVal, if_pos hok]
      have HS := Lib.hid (auC_succ s j)
      have hx0 := (Ext.refl wr).alloc (.cells #[.int .i64 s, .int .i64 j] 3)
      obtain ⟨x, hx⟩ : ∃ x, hInt (labL auW [s, (j : Int)]) = x := ⟨_, rfl⟩
      rw [hx] at hval
      have HX := Lib.hid hx
      have HV := Lib.hid hval
      have HOK := Lib.hid hok
      clear hx hl hval hok
      go_wp2_with fail
      refine (iHashLabelled_any auW _ 2 _ [s, (j : Int)] _ hO3.rd rfl (by omega) (by decide)).mono ?_
      rintro e w2 ⟨he, hE2⟩
      rw [HV.out, HOK.out] at he; subst he
      have hE3 : Ext w1 w2 := hE.trans (hx0.trans hE2)
      have hO4 := hO.ext (hx0.trans hE2)
      have hsz := hE3.size
      go_wp2_with (at_builtin; refine wpList_app1 intSl rfl _ _ rfl hO4 rfl rfl (by omega) hsz ?_; intro A2 c2 w4 hO2 hb2)
      rw [← HX.out, HS.out] at hO2
      go_roundw
      case rel => exact ⟨j + 1, A2, c2, by omega, by go_num, rfl, hO2, hE3.then hb2 (Nat.le_refl _)⟩
      case measure => simp [intOf]; omega
    · obtain rfl : j = n := by omega
      have HC := Lib.hid (auC_length s j)
      have HNN := Lib.hid (auC_nn s j)
      go_wp2_with fail
      refine (shuffled_any j A' c' (auC s j) _ hO.rd (by omega) HC.out (fun i hi => HNN.out _ (List.getElem_mem hi))).mono ?_
      rintro e w2 ⟨A2, c2, rfl, hO2, hE2⟩
      have hP : shufGo (j + 1) 0 (iota 0 (j + 1)) (auC s j) = auP s (j + 1) := rfl
      rw [hP] at hO2
      clear hP
      have hcap2 := hO2.cap
      have HTL : Hid (((auP s (j + 1)).take k).length = k) := Lib.hid (by rw [List.length_take, auP_length]; omega)
      go_wp2_with fail
      refine (Clone_any A2 k c2 ((auP s (j + 1)).take k) _ (hO2.rd.take k) HTL.out (by omega)).mono ?_
      rintro e w3 ⟨A3, c3, rfl, hO3, hE3⟩
      go_wp2_with fail
      refine (Sort_own hO3 (by omega)).mono ?_
      rintro e w4 ⟨rfl, hO4, hW4⟩
      have hE4 := hE1.trans (hE.trans (hE2.trans hE3))
      have hsz3 := (hE.trans hE2).size
      have hsz1 := hE1.size
      have hE5 := hE4.only hW4 (fun b hb => by have := hO3.high b hb; omega)
      go_wp2
      go_ret2
      exact ⟨_, _, _, rfl, hO4.more (by omega), hE5⟩
end Go.Proofs.Ytpdlcbgenimmcaa
