/- Contracts for ShuffleCoins: the program's and the reference's. -/
import Derived.Test.YtpdlcbgenimmcaaProg
import Derived.Test.YtpdlcbgenimmcaaApply
import Derived.RegionTactic
import Derived.ChangeAlike
import Derived.Deep.RegionHeld3
namespace Go.Proofs.Ytpdlcbgenimmcaa
open Go.RowKit

/-- Elements i and r change places. -/
def swapL (l : List Int) (i r : Nat) : List Int := (l.set i (l.getD r 0)).set r (l.getD i 0)
theorem swapL_length (l : List Int) (i r : Nat) : (swapL l i r).length = l.length := by simp [swapL]
def shufGo (n : Nat) (k : Nat) (l : List Int) : List Int → List Int
  | [] => l
  | c :: cs => shufGo n (k + 1) (swapL l (n - 1 - k) (c.toNat % (n - k))) cs
theorem shufGo_snoc (n : Nat) (cs : List Int) (c : Int) : ∀ (k : Nat) (l : List Int), shufGo n k l (cs ++ [c]) = swapL (shufGo n k l cs) (n - 1 - (k + cs.length)) (c.toNat % (n - (k + cs.length))) := by
  induction cs with
  | nil => intro k l; simp [shufGo]
  | cons x xs ih =>
    intro k l
    simp only [List.cons_append, shufGo, ih, List.length_cons]
    rw [show k + 1 + xs.length = k + (xs.length + 1) by omega]
theorem shufGo_length (n : Nat) (cs : List Int) : ∀ (k : Nat) (l : List Int), (shufGo n k l cs).length = l.length := by
  induction cs with
  | nil => intro k l; rfl
  | cons x xs ih => intro k l; simp [shufGo, ih, swapL_length]
def shufAt (n : Nat) (cs : List Int) (j : Nat) : List Int := shufGo n 0 (iota 0 n) (cs.take j)
theorem shufAt_length (n : Nat) (cs : List Int) (j : Nat) : (shufAt n cs j).length = n := by simp [shufAt, shufGo_length, iota_length]
theorem shufAt_succ {n : Nat} {cs : List Int} {j K : Nat} (hj : j < cs.length) (hK : cs[j] = (K : Int)) : shufAt n cs (j + 1) = swapL (shufAt n cs j) (n - 1 - j) (K % (n - j)) := by
  unfold shufAt
  rw [List.take_succ_eq_append_getElem hj, shufGo_snoc, hK, Int.toNat_natCast, List.length_take, Nat.min_eq_left (by omega), Nat.zero_add]
def shufL (n : Int) (cs : List Int) : List Int := shufGo n.toNat 0 (iota 0 n.toNat) cs
def shufR (n : Int) (cs : List Int) : Option (List Int) := if inR n 1 24 && (decide ((cs.length : Int) = n - 1) && cs.all fun c => decide (0 ≤ c)) then some (shufL n cs) else none
theorem shufR_bd (n : Int) (p : List Int) : ((shufR n p).getD []).length ≤ 100000 := by
  unfold shufR
  split
  · rename_i h
    simp only [Bool.and_eq_true] at h
    have := inR_iff.1 h.1
    simp only [Option.getD_some, shufL, shufGo_length, iota_length]; omega
  · simp
theorem all_false {cs : List Int} {j : Nat} (hj : j < cs.length) (h : cs[j] < 0) : (cs.all fun c => decide (0 ≤ c)) = false := by
  rw [List.all_eq_false]
  exact ⟨cs[j], List.getElem_mem hj, by simp; omega⟩
theorem all_true {cs : List Int} (h : ∀ i, (hi : i < cs.length) → 0 ≤ cs[i]) : (cs.all fun c => decide (0 ≤ c)) = true := by
  rw [List.all_eq_true]
  intro x hx
  obtain ⟨i, hi, rfl⟩ := List.getElem_of_mem hx
  simpa using h i hi

theorem emod_cast (K m : Nat) : ((K : Int) % (m : Int)) = ((K % m : Nat) : Int) := by simp

theorem iota0_succ (j : Nat) : iota 0 (j + 1) = iota 0 j ++ [(j : Int)] := by rw [iota_succ]; simp

theorem swap_two {l : List Int} {i r : Nat} (hi : i < l.length) (hr : r < l.length) : (l.set i l[r]).set r l[i] = swapL l i r := by
  simp [swapL, List.getD, hi, hr]

set_option maxRecDepth 100000 in
set_option maxHeartbeats 2000000 in
theorem sShuf_yes (m : Nat) (A : Option Addr) (c : Nat) (cs : List Int) (w : World) (ha : RdI w A cs) (hn2 : m ≤ 23) (hl : cs.length = m) :
    Calls Try.prog 80 #[.int .i64 ((m : Int) + 1), .slice A m c] w fun e w' => ResI 3 w (if (cs.all fun c => decide (0 ≤ c)) then some (shufGo (m + 1) 0 (iota 0 (m + 1)) cs) else none) e w' := by
  generalize hr0 : (if (cs.all fun c => decide (0 ≤ c)) then some (shufGo (m + 1) 0 (iota 0 (m + 1)) cs) else none) = r0
  have HR := Lib.hid hr0
  have HL := Lib.hid hl
  clear hl hr0
  have hr : inR ((m : Int) + 1) 1 24 = true := inR_iff.2 ⟨by omega, by omega⟩
  go_enter Try.func80, Try.ntmps80
  go_wp2_with fail
  refine (l1In_any _ _ _ _).mono ?_
  rintro e w1 ⟨rfl, rfl⟩
  go_wp2_with fail
  go_loopw [6, 7] (fun v i wr => ∃ (j : Nat) (A' : Option Addr) (c' : Nat), j ≤ m + 1 ∧ i = .int .i64 j ∧ v = .slice A' j c' ∧ OwnI wr w.heap.size 3 A' j c' (iota 0 j) ∧ Ext w wr) (fun _ i _ => m + 1 - (intOf i).toNat)
  case atStart => exact ⟨0, _, _, Nat.zero_le _, rfl, rfl, OwnI.nil _ _ _, Ext.refl _⟩
  case round =>
    obtain ⟨j, A', c', hj, rfl, rfl, hO, hE⟩ := hrel
    have hsz := hE.size
    by_cases hlt : j < m + 1
    · go_wp2_with (at_builtin; refine wpList_app1 intSl rfl _ _ rfl hO rfl rfl (by omega) hsz ?_; intro A2 c2 w2 hO2 hb2)
      rw [← iota0_succ] at hO2
      go_roundw
      case rel => exact ⟨j + 1, A2, c2, by omega, by go_num, rfl, hO2, hE.then hb2 (Nat.le_refl _)⟩
      case measure => simp [intOf]; omega
    · obtain rfl : j = m + 1 := by omega
      obtain ⟨wo, rfl⟩ : ∃ wo : World, wo = wr := ⟨_, rfl⟩
      go_wp2_with fail
      go_loopw [34] (fun i wr => ∃ k : Nat, k ≤ m ∧ i = .int .i64 k ∧ OwnI wr w.heap.size 3 A' (m + 1) c' (shufAt (m + 1) cs k) ∧ Ext w wr ∧ Hid (∀ i, (hi : i < cs.length) → i < k → 0 ≤ cs[i])) (fun i _ => m - (intOf i).toNat)
      case atStart => exact ⟨0, Nat.zero_le _, rfl, by simpa [shufAt, shufGo] using hO, hE, fun i _ h => absurd h (by omega)⟩
      case round =>
        clear hO hE hsz
        obtain ⟨k, hk, rfl, hO, hE, HP⟩ := hrel
        by_cases hlt2 : k < m
        · obtain ⟨ad, rfl, hc⟩ := (ha.ext hE).at_ (k := k) (by rw [HL.out]; exact hlt2)
          by_cases hx : cs[k]'(by rw [HL.out]; exact hlt2) < 0
          · have hall : (cs.all fun c => decide (0 ≤ c)) = false := all_false _ hx
            have HA := Lib.hid hall
            clear hall
            go_wp2
            go_ret2
            have h0 := HR.out
            rw [HA.out] at h0
            subst h0
            exact ⟨_, _, _, rfl, OwnI.nil _ _ _, hE⟩
          · obtain ⟨K, hK⟩ := Int.eq_ofNat_of_zero_le (show 0 ≤ cs[k]'(by rw [HL.out]; exact hlt2) by omega)
            rw [hK] at hc
            have HK := Lib.hid hK
            clear hK hx
            obtain ⟨t, ht⟩ : ∃ t, m = k + t := ⟨m - k, by omega⟩
            obtain ⟨R, hR⟩ : ∃ R, R = K % (t + 1) := ⟨_, rfl⟩
            have hRt : R < t + 1 := by rw [hR]; exact Nat.mod_lt _ (by omega)
            have he : (K : Int) % ((t : Int) + 1) = (R : Int) := by rw [hR]; simp
            have hs : (m : Int) - k = t := by omega
            have hlen := shufAt_length (m + 1) cs k
            have hsw := shufAt_succ (n := m + 1) (cs := cs) (j := k) (by rw [HL.out]; exact hlt2) HK.out
            rw [show m + 1 - 1 - k = t by omega, show m + 1 - k = t + 1 by omega, ← hR] at hsw
            generalize shufAt (m + 1) cs k = L at *
            obtain ⟨g, rfl, hg, _⟩ := hO.addr (by omega)
            have hti : t < L.length := by omega
            have hri : R < L.length := by omega
            obtain ⟨c1, f1⟩ := hO.at0 t hti
            obtain ⟨c2, f2⟩ := hO.at0 R hri
            obtain ⟨c3, f3⟩ := (hO.set (j := t) L[R]).at0 R (by simpa using hri)
            have hO1 := (hO.set (j := t) L[R]).set (j := R) L[t]
            rw [swap_two hti hri, ← hsw] at hO1
            have hE1 := (hE.setCell (p := ⟨g, t, none⟩) hg (.int .i64 L[R])).setCell (p := ⟨g, R, none⟩) hg (.int .i64 L[t])
            have HN := Lib.hid hlen
            have HS := Lib.hid hsw
            have HR2 := Lib.hid hR
            have HT := Lib.hid ht
            have htm : t ≤ m := by omega
            clear hlen hsw hR hO ht
            go_wp2_with fail
            all_goals
              go_roundw
              case rel =>
                refine ⟨k + 1, by omega, by go_num, hO1, hE1, fun i hi hik => ?_⟩
                by_cases e : i = k
                · subst e; rw [HK.out]; omega
                · exact HP.out i hi (by omega)
              case measure => simp [intOf]; omega
        · obtain rfl : k = m := by omega
          have hall : (cs.all fun c => decide (0 ≤ c)) = true := all_true fun i hi => HP.out i hi (by have := HL.out; omega)
          have HA := Lib.hid hall
          clear hall
          go_wp2_with fail
          go_ret2
          have h0 := HR.out
          rw [HA.out] at h0
          subst h0
          refine ⟨_, _, _, rfl, ?_, hE⟩
          rw [shufAt, ← HL.out, List.take_length] at hO
          rw [HL.out] at hO
          exact hO
set_option maxHeartbeats 1000000 in
theorem sShuffleCoins_any (n : Int) (A : Option Addr) (k c : Nat) (cs : List Int) (w : World) (ha : RdI w A cs) (hl : cs.length = k) (hk : k ≤ 1048576) (_hc : k ≤ c ∧ c ≤ maxLen) :
    Calls Try.prog 80 #[.int .i64 n, .slice A k c] w fun e w' => ResI 3 w (shufR n cs) e w' := by
  by_cases hq : inR n 1 24 = true ∧ (k : Int) = n - 1
  · obtain ⟨h1, h2⟩ := hq
    have hi := inR_iff.1 h1
    obtain rfl : n = (k : Int) + 1 := by omega
    have hr : shufR ((k : Int) + 1) cs = (if (cs.all fun c => decide (0 ≤ c)) then some (shufGo (k + 1) 0 (iota 0 (k + 1)) cs) else none) := by
      unfold shufR shufL
      rw [h1, hl]
      simp
    rw [hr]
    exact sShuf_yes k A c cs w ha (by omega) hl
  · have hr : shufR n cs = none := by
      unfold shufR
      rw [if_neg]
      rw [Bool.and_eq_true, Bool.and_eq_true, hl]
      simp only [decide_eq_true_eq]
      intro h; exact hq ⟨h.1, h.2.1⟩
    rw [hr]; clear hr
    cases hn : inR n 1 24
    · clear hq
      go_enter Try.func80, Try.ntmps80
      go_wp2_with fail
      refine (l1In_any _ _ _ _).mono ?_
      rintro e w1 ⟨he, rfl⟩
      rw [hn] at he; subst he
      go_wp2
      go_ret2
      exact ⟨_, _, _, rfl, OwnI.nil _ _ _, Ext.refl _⟩
    · have hi := inR_iff.1 hn
      have hq1 : ¬ (k : Int) = n - 1 := fun h => hq ⟨hn, h⟩
      clear hq
      go_enter Try.func80, Try.ntmps80
      go_wp2_with fail
      refine (l1In_any _ _ _ _).mono ?_
      rintro e w1 ⟨he, rfl⟩
      rw [hn] at he; subst he
      go_wp2
      go_ret2
      exact ⟨_, _, _, rfl, OwnI.nil _ _ _, Ext.refl _⟩

set_option maxRecDepth 100000 in
set_option maxHeartbeats 2000000 in
theorem shuffled_any (m : Nat) (A : Option Addr) (c : Nat) (cs : List Int) (w : World) (ha : RdI w A cs) (hn2 : m ≤ 23) (hl : cs.length = m) (hp : ∀ i, (hi : i < cs.length) → 0 ≤ cs[i]) :
    Calls Try.prog 86 #[.int .i64 ((m : Int) + 1), .slice A m c] w fun e w' => ∃ A' c', e = .returned (.slice A' (m + 1) c') ∧ OwnI w' w.heap.size 3 A' (m + 1) c' (shufGo (m + 1) 0 (iota 0 (m + 1)) cs) ∧ Ext w w' := by
  generalize hr0 : shufGo (m + 1) 0 (iota 0 (m + 1)) cs = r0
  have HR := Lib.hid hr0
  have HL := Lib.hid hl
  have HP := Lib.hid hp
  clear hl hr0 hp
  go_enter Try.func86, Try.ntmps86
  go_wp2_with fail
  go_loopw [5, 13] (fun v i wr => ∃ (j : Nat) (A' : Option Addr) (c' : Nat), j ≤ m + 1 ∧ i = .int .i64 j ∧ v = .slice A' j c' ∧ OwnI wr w.heap.size 3 A' j c' (iota 0 j) ∧ Ext w wr) (fun _ i _ => m + 1 - (intOf i).toNat)
  case atStart => exact ⟨0, _, _, Nat.zero_le _, rfl, rfl, ownI_lit [] rfl rfl (Nat.le_refl _) (Nat.zero_le _), (Ext.refl _).alloc _⟩
  case round =>
    obtain ⟨j, A', c', hj, rfl, rfl, hO, hE⟩ := hrel
    have hsz := hE.size
    by_cases hlt : j < m + 1
    · go_wp2_with (at_builtin; refine wpList_app1 intSl rfl _ _ rfl hO rfl rfl (by omega) hsz ?_; intro A2 c2 w2 hO2 hb2)
      rw [← iota0_succ] at hO2
      go_roundw
      case rel => exact ⟨j + 1, A2, c2, by omega, by go_num, rfl, hO2, hE.then hb2 (Nat.le_refl _)⟩
      case measure => simp [intOf]; omega
    · obtain rfl : j = m + 1 := by omega
      obtain ⟨wo, rfl⟩ : ∃ wo : World, wo = wr := ⟨_, rfl⟩
      go_wp2_with fail
      go_loopw [23] (fun i wr => ∃ k : Nat, k ≤ m ∧ i = .int .i64 k ∧ OwnI wr w.heap.size 3 A' (m + 1) c' (shufAt (m + 1) cs k) ∧ Ext w wr) (fun i _ => m - (intOf i).toNat)
      case atStart => exact ⟨0, Nat.zero_le _, rfl, by simpa [shufAt, shufGo] using hO, hE⟩
      case round =>
        clear hO hE hsz
        obtain ⟨k, hk, rfl, hO, hE⟩ := hrel
        by_cases hlt2 : k < m
        · obtain ⟨ad, rfl, hc⟩ := (ha.ext hE).at_ (k := k) (by rw [HL.out]; exact hlt2)
          obtain ⟨K, hK⟩ := Int.eq_ofNat_of_zero_le (show 0 ≤ cs[k]'(by rw [HL.out]; exact hlt2) from HP.out k _)
          rw [hK] at hc
          have HK := Lib.hid hK
          clear hK
          obtain ⟨t, ht⟩ : ∃ t, m = k + t := ⟨m - k, by omega⟩
          obtain ⟨R, hR⟩ : ∃ R, R = K % (t + 1) := ⟨_, rfl⟩
          have hRt : R < t + 1 := by rw [hR]; exact Nat.mod_lt _ (by omega)
          have he : (K : Int) % ((t : Int) + 1) = (R : Int) := by rw [hR]; simp
          have hs : (m : Int) - k = t := by omega
          have hlen := shufAt_length (m + 1) cs k
          have hsw := shufAt_succ (n := m + 1) (cs := cs) (j := k) (by rw [HL.out]; exact hlt2) HK.out
          rw [show m + 1 - 1 - k = t by omega, show m + 1 - k = t + 1 by omega, ← hR] at hsw
          generalize shufAt (m + 1) cs k = L at *
          obtain ⟨g, rfl, hg, _⟩ := hO.addr (by omega)
          have hti : t < L.length := by omega
          have hri : R < L.length := by omega
          obtain ⟨c1, f1⟩ := hO.at0 t hti
          obtain ⟨c2, f2⟩ := hO.at0 R hri
          obtain ⟨c3, f3⟩ := (hO.set (j := t) L[R]).at0 R (by simpa using hri)
          have hO1 := (hO.set (j := t) L[R]).set (j := R) L[t]
          rw [swap_two hti hri, ← hsw] at hO1
          have hE1 := (hE.setCell (p := ⟨g, t, none⟩) hg (.int .i64 L[R])).setCell (p := ⟨g, R, none⟩) hg (.int .i64 L[t])
          have HN := Lib.hid hlen
          have HS := Lib.hid hsw
          have HR2 := Lib.hid hR
          have HT := Lib.hid ht
          have htm : t ≤ m := by omega
          clear hlen hsw hR ht
          go_wp2_with fail
          all_goals go_region
          all_goals
            go_wp2
            go_roundw
            case rel =>
              exact ⟨k + 1, by omega, by go_num, OwnI.ext hO1 ((Ext.refl _).drewN _), hE1.drewN _⟩
            case measure => simp [intOf]; omega
        · obtain rfl : k = m := by omega
          go_wp2_with fail
          go_ret
          rw [shufAt, ← HL.out, List.take_length] at hO
          rw [HL.out, HR.out] at hO
          exact ⟨_, _, rfl, hO, hE⟩


end Go.Proofs.Ytpdlcbgenimmcaa
