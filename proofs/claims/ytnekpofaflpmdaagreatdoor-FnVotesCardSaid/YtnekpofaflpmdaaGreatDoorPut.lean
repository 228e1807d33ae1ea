/- Contracts for an insertion into a rising list: the reference's l1Put (as in Aud, for claims that do without it). -/
import Derived.Test.YtnekpofaflpmdaaGreatDoorProg
import Derived.Test.YtnekpofaflpmdaaGreatDoorEq
import Derived.Test.YtnekpofaflpmdaaGreatDoorApp
import Derived.Test.YtnekpofaflpmdaaGreatDoorLies
namespace Go.Proofs.YtnekpofaflpmdaaGreatDoor
open Go.RowKit
def putL : List Int → Int → List Int
  | [], n => [n]
  | x :: l, n => if x < n then x :: putL l n else if x = n then x :: l else n :: x :: l
theorem putL_at (n : Int) : ∀ (l : List Int) (k : Nat), (∀ i, (h : i < l.length) → i < k → l[i] < n) → (hk : k ≤ l.length) → ((h : k < l.length) → ¬ l[k] < n) →
    putL l n = if l.getD k (n + 1) = n then l else l.take k ++ n :: l.drop k := by
  intro l
  induction l with
  | nil =>
    intro k _ hk _
    obtain rfl : k = 0 := by simpa using hk
    simp [putL, List.getD]; omega
  | cons x l ih =>
    intro k h1 hk h2
    cases k with
    | zero =>
      have := h2 (by simp)
      simp only [List.getElem_cons_zero] at this
      simp only [putL, if_neg this, List.getD_cons_zero, List.take_zero, List.drop_zero, List.nil_append]
    | succ k =>
      have hx : x < n := by have := h1 0 (by simp) (by omega); simpa using this
      have := ih k (fun i hi hik => by have := h1 (i + 1) (by simpa using hi) (by omega); simpa using this) (by simpa using hk) (fun h => by have := h2 (by simpa using h); simpa using this)
      simp only [putL, if_pos hx, this, List.getD_cons_succ, List.take_succ_cons, List.drop_succ_cons, List.cons_append]
      split <;> rfl
theorem putL_perm (n : Int) : ∀ (l : List Int), n ∉ l → (putL l n).Perm (n :: l)
  | [], _ => .refl _
  | x :: l, h => by
    simp only [List.mem_cons, not_or] at h
    simp only [putL]
    split
    · exact ((putL_perm n l h.2).cons x).trans (List.Perm.swap n x l)
    · rw [if_neg (fun e => h.1 e.symm)]
set_option maxRecDepth 100000 in
set_option maxHeartbeats 2000000 in
theorem l1Put_any (base : Nat) (A : Option Addr) (n c : Nat) (l : List Int) (x : Int) (w : World) (ha : OwnI w base 3 A n c l) (hn : n ≤ 100000) (hb : base ≤ w.heap.size) :
    Calls Tryz.prog 57 #[.slice A n c, .int .i64 x] w fun e w' => ∃ A' n' c', e = .returned (.slice A' n' c') ∧ OwnI w' base 3 A' n' c' (putL l x) ∧ n' ≤ n + 1 ∧ Ext w w' := by
  have HL := Lib.hid ha.len
  have hcap := ha.cap
  obtain ⟨R, hR⟩ : ∃ R, putL l x = R := ⟨_, rfl⟩
  rw [hR]
  have HR := Lib.hid hR
  clear hR
  go_enter Tryz.func57, Tryz.ntmps57
  go_wp2
  go_loop [5] (fun i => ∃ k : Nat, k ≤ n ∧ i = .int .i64 k ∧ Hid (∀ i, (h : i < l.length) → i < k → l[i] < x)) (fun i => n - (intOf i).toNat)
  case atStart => exact ⟨0, Nat.zero_le _, rfl, Lib.hid fun i _ h => absurd h (by omega)⟩
  case round =>
    obtain ⟨k, hk, rfl, HK⟩ := hrel
    have hO0 : OwnI (w.alloc (.cells #[] 3)) w.heap.size 3 (some ⟨w.heap.size, 0, none⟩) 0 0 [] := ownI_lit [] rfl rfl (Nat.le_refl _) (Nat.zero_le _)
    have hE0 := (Ext.refl w).alloc (.cells #[] 3)
    by_cases hlt : k < n
    · have hlt' : k < l.length := by rw [HL.out]; exact hlt
      obtain ⟨ad, rfl, hc⟩ := ha.rd.at_ hlt'
      have hgd : l.getD k (x + 1) = l[k] := by simp [List.getD, hlt']
      have hnxt : ∀ i, (h : i < l.length) → i < k + 1 → l[k] < x → l[i] < x := fun i h hi hy => by
        by_cases e : i = k
        · subst e; exact hy
        · exact HK.out i h (by omega)
      have hput := fun h : ¬ l[k] < x => putL_at x l k HK.out (by rw [HL.out]; exact hk) (fun _ => h)
      rw [hgd] at hput
      generalize l[k] = y at *
      have HN := Lib.hid hnxt
      have HP := Lib.hid hput
      clear hgd hnxt hput
      by_cases hy : y < x
      · go_wp2
        go_round
        case rel => exact ⟨k + 1, by omega, by go_num, Lib.hid fun i h hi => HN.out i h hi hy⟩
        case measure => simp [intOf]; omega
      · have HP2 := Lib.hid (HP.out hy)
        by_cases hz : y = x
        · have hz2 : (y == x) = true := by simp [hz]
          have hl2 : l = R := by rw [← HR.out, HP2.out, if_pos hz]
          have ha2 := ha
          rw [hl2] at ha2
          clear hl2
          go_wp2
          go_ret
          exact ⟨_, _, _, rfl, ha2, by omega, Ext.refl _⟩
        · have hz2 : (y == x) = false := by simp [hz]
          have hl2 : l.take k ++ x :: l.drop k = R := by rw [← HR.out, HP2.out, if_neg hz]
          have hR1 : RdI (w.alloc (.cells #[] 3)) (some ad) (l.take k) := (ha.rd.ext hE0).take k
          have hL1 : (l.take k).length = k := by rw [List.length_take, HL.out]; omega
          have hR2 : RdI w (some (ad.add k)) (l.drop k) := by
            have := ha.rd.drop (cap := c) k (by rw [HL.out]; omega)
            rwa [if_neg (by omega)] at this
          have hL2 : (l.drop k).length = n - k := by rw [List.length_drop, HL.out]
          have hck : ¬ c = k := by omega
          have hck2 : (n : Int) - k = ((n - k : Nat) : Int) := by omega
          generalize l.take k = l1 at *
          generalize l.drop k = l2 at *
          have HL1 := Lib.hid hL1
          have HRR := Lib.hid hl2
          clear hl2
          have HL2 := Lib.hid hL2
          clear hL1 hL2
          go_wp2_with (first
            | (at_builtin; refine wpList_appL intSl rfl _ _ rfl hO0 rfl hR1 HL1.out rfl (by omega) hE0.size ?_; intro A2 d2 w2 hO2 hb2; rw [List.nil_append, Nat.zero_add] at hO2; have hE2 := hE0.then hb2 (Nat.le_refl _))
            | (at_builtin; refine wpList_app1 intSl rfl _ _ rfl hO2 rfl rfl (by omega) hE2.size ?_; intro A3 d3 w3 hO3 hb3; have hE3 := hE2.then hb3 (Nat.le_refl _))
            | (at_builtin; refine wpList_appL intSl rfl _ _ rfl hO3 rfl (hR2.ext hE3) HL2.out rfl (by omega) hE3.size ?_; intro A4 d4 w4 hO4 hb4))
          go_ret
          rw [List.append_assoc, List.singleton_append, HRR.out] at hO4
          exact ⟨_, _, _, rfl, hO4.more hb, by omega, hE3.then hb4 (Nat.le_refl _)⟩
    · obtain rfl : k = n := by omega
      have hput := putL_at x l k HK.out (by rw [HL.out]; exact hk) (fun h => absurd h (by rw [HL.out]; omega))
      rw [show l.getD k (x + 1) = x + 1 by rw [List.getD, List.getElem?_eq_none (by rw [HL.out]; omega)]; rfl, if_neg (by omega), List.take_of_length_le (by rw [HL.out]; omega), List.drop_eq_nil_of_le (by rw [HL.out]; omega)] at hput
      rw [HR.out] at hput
      have HRR := Lib.hid hput
      clear hput
      have hR1 : RdI (w.alloc (.cells #[] 3)) A l := ha.rd.ext hE0
      go_wp2_with (first
        | (at_builtin; refine wpList_appL intSl rfl _ _ rfl hO0 rfl hR1 HL.out rfl (by omega) hE0.size ?_; intro A2 d2 w2 hO2 hb2; rw [List.nil_append, Nat.zero_add] at hO2; have hE2 := hE0.then hb2 (Nat.le_refl _))
        | (at_builtin; refine wpList_app1 intSl rfl _ _ rfl hO2 rfl rfl (by omega) hE2.size ?_; intro A3 d3 w3 hO3 hb3; have hE3 := hE2.then hb3 (Nat.le_refl _))
        | (at_builtin; refine wpList_appL intSl rfl _ _ rfl hO3 rfl (RdI.nil _ _) (show ([] : List Int).length = 0 from rfl) rfl (by omega) hE3.size ?_; intro A4 d4 w4 hO4 hb4))
      all_goals
        go_ret
        rw [List.append_nil, ← HRR.out] at hO4
        exact ⟨_, _, _, rfl, hO4.more hb, by omega, hE3.then hb4 (Nat.le_refl _)⟩
end Go.Proofs.YtnekpofaflpmdaaGreatDoor
