/- Contracts for the codes of votes: the program's and the reference's; CodeOf. -/
import Derived.Test.YtnekpofaflpmdaaGreatDoorProg
import Derived.Test.YtnekpofaflpmdaaGreatDoorVoteC
import Derived.Test.YtnekpofaflpmdaaGreatDoorApp
import Derived.Test.YtnekpofaflpmdaaGreatDoorLies
import Derived.Deep.RegionHeld3
namespace Go.Proofs.YtnekpofaflpmdaaGreatDoor
open Go.RowKit

/-- The number with some digits to a base, the least significant one first. -/
def numR (base more : Int) (l : List Int) : Int := l.foldr (fun x n => n * base + x + more) 0
theorem numR_drop {base more : Int} {l : List Int} {i : Nat} (hi : i < l.length) : numR base more (l.drop i) = numR base more (l.drop (i + 1)) * base + l[i] + more := by
  rw [List.drop_eq_getElem_cons hi]; rfl
theorem numR_more (base : Int) : ∀ l : List Int, numR base 1 l = numR base 0 (l.map fun x => x + 1)
  | [] => rfl
  | x :: l => by
    have h1 : numR base 1 (x :: l) = numR base 1 l * base + x + 1 := rfl
    have h2 : numR base 0 ((x :: l).map fun x => x + 1) = numR base 0 (l.map fun x => x + 1) * base + (x + 1) + 0 := rfl
    rw [h1, h2, numR_more base l]; omega
theorem numR_bd {base more : Int} (hb : 1 ≤ base) (hb2 : base ≤ 27) : ∀ l : List Int, (∀ x ∈ l, 0 ≤ x + more ∧ x + more ≤ 26) → 0 ≤ numR base more l ∧ numR base more l + 1 ≤ 27 ^ l.length
  | [], _ => by simp [numR]
  | x :: l, h => by
    have ih := numR_bd hb hb2 l fun y hy => h y (by simp [hy])
    have hx := h x (by simp)
    have e : numR base more (x :: l) = numR base more l * base + x + more := rfl
    have h1 : 0 ≤ numR base more l * base := Int.mul_nonneg ih.1 (by omega)
    have h2 : numR base more l * base ≤ numR base more l * 27 := Int.mul_le_mul_of_nonneg_left hb2 ih.1
    rw [e, List.length_cons, Int.pow_succ]
    omega
theorem pow27 {n : Nat} (h : n ≤ 8) : (27 : Int) ^ n ≤ 282429536481 := by
  have : n = 0 ∨ n = 1 ∨ n = 2 ∨ n = 3 ∨ n = 4 ∨ n = 5 ∨ n = 6 ∨ n = 7 ∨ n = 8 := by omega
  rcases this with rfl | rfl | rfl | rfl | rfl | rfl | rfl | rfl | rfl <;> decide
theorem numR_le {base more : Int} (hb : 1 ≤ base) (hb2 : base ≤ 27) {l : List Int} (h8 : l.length ≤ 8) (h : ∀ x ∈ l, 0 ≤ x + more ∧ x + more ≤ 26) (i : Nat) : 0 ≤ numR base more (l.drop i) ∧ numR base more (l.drop i) ≤ 282429536481 := by
  have h1 := numR_bd hb hb2 (l.drop i) fun x hx => h x (List.mem_of_mem_drop hx)
  have h2 := pow27 (n := (l.drop i).length) (by rw [List.length_drop]; omega)
  omega
/-- A list with 1 for each chosen option. -/
def marksAt (b : Nat) (v : List Int) (j : Nat) : List Int := (v.take j).foldl (fun acc k => acc.set k.toNat 1) (List.replicate b 0)
def marksL (b : Nat) (v : List Int) : List Int := v.foldl (fun acc k => acc.set k.toNat 1) (List.replicate b 0)
theorem marksAt_succ {b : Nat} {v : List Int} {j K : Nat} (hj : j < v.length) (hK : v[j] = (K : Int)) : marksAt b v (j + 1) = (marksAt b v j).set K 1 := by
  rw [marksAt, List.take_succ_eq_append_getElem hj, List.foldl_append]
  simp [marksAt, hK]
theorem marksAt_length (b : Nat) (v : List Int) : ∀ j, (marksAt b v j).length = b := by
  intro j
  unfold marksAt
  generalize v.take j = u
  have : ∀ (u : List Int) (acc : List Int), (u.foldl (fun acc (k : Int) => acc.set k.toNat 1) acc).length = acc.length := by
    intro u
    induction u with
    | nil => intro acc; rfl
    | cons x u ih => intro acc; rw [List.foldl_cons, ih, List.length_set]
  rw [this, List.length_replicate]
theorem marksAt_all (b : Nat) (v : List Int) : marksAt b v v.length = marksL b v := by rw [marksAt, List.take_length]; rfl
theorem marksL_rng (b : Nat) (v : List Int) : ∀ x ∈ marksL b v, 0 ≤ x ∧ x ≤ 1 := by
  have : ∀ (u : List Int) (acc : List Int), (∀ x ∈ acc, (0 : Int) ≤ x ∧ x ≤ 1) → ∀ x ∈ u.foldl (fun acc (k : Int) => acc.set k.toNat 1) acc, 0 ≤ x ∧ x ≤ 1 := by
    intro u
    induction u with
    | nil => intro acc h x hx; exact h x hx
    | cons y u ih =>
      intro acc h
      refine ih _ fun x hx => ?_
      rcases List.mem_or_eq_of_mem_set hx with hx | rfl
      · exact h x hx
      · omega
  exact this v _ (fun x hx => by rw [List.mem_replicate] at hx; omega)
def codeV (a b f : Int) (v : List Int) : Int :=
  if a = 1 then numR 2 0 (marksL b.toNat v) else if a = 2 then numR (f + 1) 0 v else if a = 3 then numR (b + 1) 1 v else numR 27 0 v

set_option maxHeartbeats 1000000 in
theorem vNumber_any (A : Option Addr) (n c : Nat) (l : List Int) (base more : Int) (w : World) (ha : RdI w A l) (hl : l.length = n) (h8 : n ≤ 8) (hb : 1 ≤ base) (hb2 : base ≤ 27) (hm : 0 ≤ more ∧ more ≤ 1) (h : ∀ x ∈ l, 0 ≤ x + more ∧ x + more ≤ 26) :
    Calls Tryz.prog 40 #[.slice A n c, .int .i64 base, .int .i64 more] w fun e w' => e = .returned (.int .i64 (numR base more l)) ∧ w = w' := by
  subst hl
  have hle := numR_le hb hb2 h8 h
  have HLE := Lib.hid hle
  have HX := Lib.hid h
  clear hle h
  go_enter Tryz.func40, Tryz.ntmps40
  go_wp2
  go_loop [7, 8] (fun o i => ∃ j : Nat, j ≤ l.length ∧ i = .int .i64 ((j : Int) - 1) ∧ o = .int .i64 (numR base more (l.drop j))) (fun _ i => (intOf i + 1).toNat)
  case atStart => exact ⟨l.length, Nat.le_refl _, rfl, by rw [List.drop_eq_nil_of_le (Nat.le_refl _)]; rfl⟩
  case round =>
    obtain ⟨j, hj, rfl, rfl⟩ := hrel
    by_cases hlt : 1 ≤ j
    · obtain ⟨i, rfl⟩ : ∃ i, j = i + 1 := ⟨j - 1, by omega⟩
      have e1 : ((i + 1 : Nat) : Int) - 1 = ((i : Nat) : Int) := by omega
      rw [e1]
      obtain ⟨ad, rfl, hc⟩ := ha.at_ (show i < l.length by omega)
      have hs := numR_drop (base := base) (more := more) (show i < l.length by omega)
      have h1 := HLE.out (i + 1)
      have h2 := HLE.out i
      have h3 := HX.out l[i] (List.getElem_mem _)
      rw [hs] at h2
      have HS := Lib.hid hs
      clear hs e1
      have h4 : 0 ≤ numR base more (l.drop (i + 1)) * base := Int.mul_nonneg h1.1 (by omega)
      have h5 : numR base more (l.drop (i + 1)) * base ≤ 282429536481 * 27 := Int.mul_le_mul h1.2 hb2 (by omega) (by omega)
      generalize l[i] = x at *
      generalize numR base more (l.drop (i + 1)) = y at *
      go_wp2
      go_round
      case rel => exact ⟨i, by omega, by go_num, by rw [HS.out]⟩
      case measure => simp [intOf] <;> omega
    · obtain rfl : j = 0 := by omega
      rw [List.drop_zero]
      go_wp2
      go_ret
      exact ⟨rfl, rfl⟩
set_option maxHeartbeats 1000000 in
theorem codeOf_any (A : Option Addr) (n c : Nat) (l : List Int) (base : Int) (w : World) (ha : RdI w A l) (hl : l.length = n) (h8 : n ≤ 8) (hb : 1 ≤ base) (hb2 : base ≤ 27) (h : ∀ x ∈ l, 0 ≤ x + 0 ∧ x + 0 ≤ 26) :
    Calls Tryz.prog 36 #[.slice A n c, .int .i64 base] w fun e w' => e = .returned (.int .i64 (numR base 0 l)) ∧ w = w' := by
  subst hl
  have hle := numR_le hb hb2 h8 h
  have HLE := Lib.hid hle
  have HX := Lib.hid h
  clear hle h
  go_enter Tryz.func36, Tryz.ntmps36
  go_wp2
  go_loop [5, 6] (fun o i => ∃ j : Nat, j ≤ l.length ∧ i = .int .i64 ((j : Int) - 1) ∧ o = .int .i64 (numR base 0 (l.drop j))) (fun _ i => (intOf i + 1).toNat)
  case atStart => exact ⟨l.length, Nat.le_refl _, rfl, by rw [List.drop_eq_nil_of_le (Nat.le_refl _)]; rfl⟩
  case round =>
    obtain ⟨j, hj, rfl, rfl⟩ := hrel
    by_cases hlt : 1 ≤ j
    · obtain ⟨i, rfl⟩ : ∃ i, j = i + 1 := ⟨j - 1, by omega⟩
      have e1 : ((i + 1 : Nat) : Int) - 1 = ((i : Nat) : Int) := by omega
      rw [e1]
      obtain ⟨ad, rfl, hc⟩ := ha.at_ (show i < l.length by omega)
      have hs := numR_drop (base := base) (more := 0) (show i < l.length by omega)
      rw [Int.add_zero] at hs
      have h1 := HLE.out (i + 1)
      have h2 := HLE.out i
      have h3 := HX.out l[i] (List.getElem_mem _)
      rw [hs] at h2
      have HS := Lib.hid hs
      clear hs e1
      have h4 : 0 ≤ numR base 0 (l.drop (i + 1)) * base := Int.mul_nonneg h1.1 (by omega)
      have h5 : numR base 0 (l.drop (i + 1)) * base ≤ 282429536481 * 27 := Int.mul_le_mul h1.2 hb2 (by omega) (by omega)
      generalize l[i] = x at *
      generalize numR base 0 (l.drop (i + 1)) = y at *
      go_wp2
      go_round
      case rel => exact ⟨i, by omega, by go_num, by rw [HS.out]⟩
      case measure => simp [intOf] <;> omega
    · obtain rfl : j = 0 := by omega
      rw [List.drop_zero]
      go_wp2
      go_ret
      exact ⟨rfl, rfl⟩

set_option maxHeartbeats 1000000 in
theorem vMarks_any (a : Int) (b : Nat) (c d f : Int) (A : Option Addr) (n k : Nat) (v : List Int) (w : World) (hb : b ≤ 8) (ha : RdI w A v) (hl : v.length = n) (hn : n ≤ 1048576) (hR : allR v 0 ((b : Int) - 1) = true) :
    Calls Tryz.prog 41 #[.agg #[.int .i64 a, .int .i64 b, .int .i64 c, .int .i64 d, .int .i64 f], .slice A n k] w fun e w' => ∃ A' c', e = .returned (.slice A' b c') ∧ OwnI w' w.heap.size 3 A' b c' (marksL b v) ∧ Ext w w' := by
  have B := Blk.new w 25 #[.int .i64 a, .int .i64 b, .int .i64 c, .int .i64 d, .int .i64 f]
  have hE0 := (Ext.refl w).alloc (.cells #[.int .i64 a, .int .i64 b, .int .i64 c, .int .i64 d, .int .i64 f] 25)
  have C := B.cells
  subst hl
  have HR := Lib.hid hR
  clear hR
  go_enter Tryz.func41, Tryz.ntmps41
  go_wp2_with (at_make; refine wpList_mkI intSl rfl _ _ rfl _ _ _ _ b rfl rfl rfl rfl (by omega) (w.heap.size + 1) (by simp) ?_; intro w1 hO hE hz)
  have hE2 := hE0.trans hE
  clear hE0 hE C B hz
  have hlow : w.heap.size ≤ (w.alloc (.cells #[.int .i64 a, .int .i64 b, .int .i64 c, .int .i64 d, .int .i64 f] 25)).heap.size := by simp
  obtain ⟨g, hg⟩ : ∃ g, g = (w.alloc (.cells #[.int .i64 a, .int .i64 b, .int .i64 c, .int .i64 d, .int .i64 f] 25)).heap.size := ⟨_, rfl⟩
  rw [← hg] at hO hlow
  have hg' : g = w.heap.size + 1 := by rw [hg]; simp
  have HG := Lib.hid hg'
  clear hg
  subst hg'
  go_loopw [13] (fun i wr => ∃ j : Nat, j ≤ v.length ∧ i = .int .i64 j ∧ OwnI wr (w.heap.size + 1) 3 (some ⟨w.heap.size + 1, 0, none⟩) b b (marksAt b v j) ∧ Ext w wr) (fun i _ => v.length - (intOf i).toNat)
  case atStart => exact ⟨0, Nat.zero_le _, rfl, hO, hE2⟩
  case round =>
    clear hO hE2 HG
    obtain ⟨j, hj, rfl, hO, hE⟩ := hrel
    by_cases hlt : j < v.length
    · obtain ⟨ad, rfl, hc⟩ := (ha.ext hE).at_ hlt
      have hr := allR_at HR.out hlt
      obtain ⟨K, hK⟩ := Int.eq_ofNat_of_zero_le hr.1
      have hKb : K < b := by omega
      obtain ⟨h1, h2⟩ := hO.at0 K (by rw [marksAt_length]; exact hKb)
      have hO' := hO.set (j := K) 1
      rw [← marksAt_succ hlt hK] at hO'
      rw [hK] at hc
      have HK := Lib.hid hK
      clear hK hr
      go_wp2
      go_roundw
      case rel => exact ⟨j + 1, by omega, by go_num, hO', hE.setCell (p := ⟨w.heap.size + 1, K, none⟩) (by simp) _⟩
      case measure => simp [intOf]; omega
    · obtain rfl : j = v.length := by omega
      rw [marksAt_all] at hO
      go_wp2
      go_ret
      exact ⟨_, _, rfl, hO.more (Nat.le_succ _), hE⟩

set_option maxHeartbeats 1000000 in
theorem choices_any (a : Int) (b : Nat) (c d f : Int) (A : Option Addr) (n k : Nat) (v : List Int) (w : World) (hb : b ≤ 8) (ha : RdI w A v) (hl : v.length = n) (hn : n ≤ 1048576) (hR : allR v 0 ((b : Int) - 1) = true) :
    Calls Tryz.prog 61 #[.agg #[.int .i64 a, .int .i64 b, .int .i64 c, .int .i64 d, .int .i64 f], .slice A n k] w fun e w' => ∃ A' c', e = .returned (.slice A' b c') ∧ OwnI w' w.heap.size 3 A' b c' (marksL b v) ∧ Ext w w' := by
  have B := Blk.new w 25 #[.int .i64 a, .int .i64 b, .int .i64 c, .int .i64 d, .int .i64 f]
  have hE0 := (Ext.refl w).alloc (.cells #[.int .i64 a, .int .i64 b, .int .i64 c, .int .i64 d, .int .i64 f] 25)
  have C := B.cells
  subst hl
  have HR := Lib.hid hR
  clear hR
  go_enter Tryz.func61, Tryz.ntmps61
  go_wp2_with (at_make; refine wpList_mkI intSl rfl _ _ rfl _ _ _ _ b rfl rfl rfl rfl (by omega) (w.heap.size + 1) (by simp) ?_; intro w1 hO hE hz)
  have hE2 := hE0.trans hE
  clear hE0 hE C B hz
  have hlow : w.heap.size ≤ (w.alloc (.cells #[.int .i64 a, .int .i64 b, .int .i64 c, .int .i64 d, .int .i64 f] 25)).heap.size := by simp
  obtain ⟨g, hg⟩ : ∃ g, g = (w.alloc (.cells #[.int .i64 a, .int .i64 b, .int .i64 c, .int .i64 d, .int .i64 f] 25)).heap.size := ⟨_, rfl⟩
  rw [← hg] at hO hlow
  have hg' : g = w.heap.size + 1 := by rw [hg]; simp
  have HG := Lib.hid hg'
  clear hg
  subst hg'
  go_loopw [13] (fun i wr => ∃ j : Nat, j ≤ v.length ∧ i = .int .i64 j ∧ OwnI wr (w.heap.size + 1) 3 (some ⟨w.heap.size + 1, 0, none⟩) b b (marksAt b v j) ∧ Ext w wr) (fun i _ => v.length - (intOf i).toNat)
  case atStart => exact ⟨0, Nat.zero_le _, rfl, hO, hE2⟩
  case round =>
    clear hO hE2 HG
    obtain ⟨j, hj, rfl, hO, hE⟩ := hrel
    by_cases hlt : j < v.length
    · obtain ⟨ad, rfl, hc⟩ := (ha.ext hE).at_ hlt
      have hr := allR_at HR.out hlt
      obtain ⟨K, hK⟩ := Int.eq_ofNat_of_zero_le hr.1
      have hKb : K < b := by omega
      obtain ⟨h1, h2⟩ := hO.at0 K (by rw [marksAt_length]; exact hKb)
      have hO' := hO.set (j := K) 1
      rw [← marksAt_succ hlt hK] at hO'
      rw [hK] at hc
      have HK := Lib.hid hK
      clear hK hr
      go_wp2
      go_roundw
      case rel => exact ⟨j + 1, by omega, by go_num, hO', hE.setCell (p := ⟨w.heap.size + 1, K, none⟩) (by simp) _⟩
      case measure => simp [intOf]; omega
    · obtain rfl : j = v.length := by omega
      rw [marksAt_all] at hO
      go_wp2
      go_ret
      exact ⟨_, _, rfl, hO.more (Nat.le_succ _), hE⟩

/-- What a vote's elements keep to. -/
def VoteParts (a b f : Int) (v : List Int) : Prop :=
    (a = 1 → allR v 0 (b - 1) = true) ∧ (a = 2 → (v.length : Int) = b ∧ allR v 0 f = true) ∧ (a = 3 → allR v 0 (b - 1) = true ∧ v.length ≤ 8) ∧ (a = 4 → allR v 1 26 = true ∧ v.length ≤ 5) ∧ v.length ≤ 8
theorem vote_parts {a b c d f : Int} {v : List Int} (h : validCt a b c d f = true) (hv : voteB a b c d f v = true) :
    (a = 1 → allR v 0 (b - 1) = true) ∧ (a = 2 → (v.length : Int) = b ∧ allR v 0 f = true) ∧ (a = 3 → allR v 0 (b - 1) = true ∧ v.length ≤ 8) ∧ (a = 4 → allR v 1 26 = true ∧ v.length ≤ 5) ∧ v.length ≤ 8 := by
  obtain ⟨_, h2, h3, h4, h5, _⟩ := valid_kind h
  rw [validCt_iff] at h
  obtain ⟨g1, g2, g3⟩ := h
  unfold voteB at hv
  by_cases e1 : a = 1
  · subst e1
    rw [if_pos rfl, Bool.and_eq_true, ris_sort, Bool.and_eq_true] at hv
    have hl := inR_iff.1 hv.2
    refine ⟨fun _ => hv.1.1, fun h => absurd h (by decide), fun h => absurd h (by decide), fun h => absurd h (by decide), ?_⟩
    omega
  rw [if_neg e1] at hv
  by_cases e2 : a = 2
  · subst e2
    rw [if_pos rfl, Bool.and_eq_true, Bool.and_eq_true, decide_eq_true_eq] at hv
    refine ⟨fun h => absurd h (by decide), fun _ => ⟨hv.1, hv.2.1⟩, fun h => absurd h (by decide), fun h => absurd h (by decide), ?_⟩
    omega
  rw [if_neg e2] at hv
  by_cases e3 : a = 3
  · subst e3
    rw [if_pos rfl, Bool.and_eq_true, Bool.and_eq_true] at hv
    have hl := inR_iff.1 hv.2.2
    refine ⟨fun h => absurd h (by decide), fun h => absurd h (by decide), fun _ => ⟨hv.1, by omega⟩, fun h => absurd h (by decide), ?_⟩
    omega
  rw [if_neg e3, Bool.and_eq_true] at hv
  have hl := inR_iff.1 hv.2
  refine ⟨fun h => absurd h e1, fun h => absurd h e2, fun h => absurd h e3, fun h4' => ⟨hv.1, by omega⟩, by omega⟩

set_option maxHeartbeats 1000000 in
theorem vCode_w (a b c d f : Int) (A : Option Addr) (n k : Nat) (v : List Int) (w : World) (h : validCt a b c d f = true) (hv : VoteParts a b f v) (ha : RdI w A v) (hl : v.length = n) (hn : n ≤ 1048576) :
    Calls Tryz.prog 21 #[.agg #[.int .i64 a, .int .i64 b, .int .i64 c, .int .i64 d, .int .i64 f], .slice A n k] w fun e w' => e = .returned (.int .i64 (codeV a b f v)) ∧ Ext w w' := by
  obtain ⟨h1, h2, h3, h4, h5, _⟩ := valid_kind h
  obtain ⟨q1, q2, q3, q4, q5⟩ := hv
  clear h
  obtain ⟨B, rfl⟩ := Int.eq_ofNat_of_zero_le h2
  have hE := (Ext.refl w).alloc (.cells #[.int .i64 a, .int .i64 B, .int .i64 c, .int .i64 d, .int .i64 f] 25)
  have C := (Blk.new w 25 #[.int .i64 a, .int .i64 B, .int .i64 c, .int .i64 d, .int .i64 f]).cells
  rcases h1 with rfl | rfl | rfl | rfl
  · have hR := q1 rfl
    have HR := Lib.hid hR
    clear hR q1 q2 q3 q4
    go_enter Tryz.func21, Tryz.ntmps21
    go_wp2_with fail
    refine (vMarks_any _ B _ _ _ _ _ _ v _ (by omega) (ha.ext hE) hl hn HR.out).mono ?_
    rintro e w1 ⟨A', c', rfl, hO, hb⟩
    go_wp2_with fail
    refine (vNumber_any _ _ _ (marksL B v) _ _ _ hO.rd hO.len (by omega) (by omega) (by omega) (by omega) (fun x hx => by have := marksL_rng B v x hx; omega)).mono ?_
    rintro e w2 ⟨rfl, rfl⟩
    go_wp2
    go_ret
    exact ⟨rfl, hE.trans hb⟩
  · have hR := (q2 rfl).2
    have hlb := (q2 rfl).1
    have HR := Lib.hid hR
    clear hR q1 q2 q3 q4
    go_enter Tryz.func21, Tryz.ntmps21
    go_wp2_with fail
    refine (vNumber_any _ _ _ v _ _ _ (ha.ext hE) hl (by omega) (by omega) (by omega) (by omega) (fun x hx => by have := allR_iff.1 HR.out x hx; omega)).mono ?_
    rintro e w2 ⟨rfl, rfl⟩
    go_wp2
    go_ret
    exact ⟨rfl, hE⟩
  · have hR := (q3 rfl).1
    have HR := Lib.hid hR
    clear hR q1 q2 q3 q4
    go_enter Tryz.func21, Tryz.ntmps21
    go_wp2_with fail
    refine (vNumber_any _ _ _ v _ _ _ (ha.ext hE) hl (by omega) (by omega) (by omega) (by omega) (fun x hx => by have := allR_iff.1 HR.out x hx; omega)).mono ?_
    rintro e w2 ⟨rfl, rfl⟩
    go_wp2
    go_ret
    exact ⟨rfl, hE⟩
  · have hR := (q4 rfl).1
    have HR := Lib.hid hR
    clear hR q1 q2 q3 q4
    go_enter Tryz.func21, Tryz.ntmps21
    go_wp2_with fail
    refine (vNumber_any _ _ _ v _ _ _ (ha.ext hE) hl (by omega) (by omega) (by omega) (by omega) (fun x hx => by have := allR_iff.1 HR.out x hx; omega)).mono ?_
    rintro e w2 ⟨rfl, rfl⟩
    go_wp2
    go_ret
    exact ⟨rfl, hE⟩

theorem vCode_any (a b c d f : Int) (A : Option Addr) (n k : Nat) (v : List Int) (w : World) (h : validCt a b c d f = true) (hv : voteB a b c d f v = true) (ha : RdI w A v) (hl : v.length = n) (hn : n ≤ 1048576) :
    Calls Tryz.prog 21 #[.agg #[.int .i64 a, .int .i64 b, .int .i64 c, .int .i64 d, .int .i64 f], .slice A n k] w fun e w' => e = .returned (.int .i64 (codeV a b f v)) ∧ Ext w w' := vCode_w a b c d f A n k v w h (vote_parts h hv) ha hl hn

/-- The digits of a vote's code, and their base. -/
def digL (a : Int) (b : Nat) (v : List Int) : List Int := if a = 1 then marksL b v else if a = 3 then v.map fun x => x + 1 else v
def baseV (a b f : Int) : Int := if a = 2 then f + 1 else if a = 3 then b + 1 else if a = 4 then 27 else 2

set_option maxHeartbeats 400000 in
theorem base_any (a b c d f : Int) (w : World) (h : validCt a b c d f = true) :
    Calls Tryz.prog 38 #[.agg #[.int .i64 a, .int .i64 b, .int .i64 c, .int .i64 d, .int .i64 f]] w fun e w' => e = .returned (.int .i64 (baseV a b f)) ∧ Ext w w' := by
  obtain ⟨h1, h2, h3, h4, h5, _⟩ := valid_kind h
  clear h
  have hE := (Ext.refl w).alloc (.cells #[.int .i64 a, .int .i64 b, .int .i64 c, .int .i64 d, .int .i64 f] 25)
  rcases h1 with rfl | rfl | rfl | rfl
  all_goals
    go_enter Tryz.func38, Tryz.ntmps38
    go_wp2
    go_ret
    exact ⟨rfl, hE⟩

theorem map1_take {v : List Int} {j : Nat} (hj : j < v.length) : (v.take (j + 1)).map (fun x => x + 1) = (v.take j).map (fun x => x + 1) ++ [v[j] + 1] := by
  rw [List.take_succ_eq_append_getElem hj, List.map_append]; rfl
theorem digL_length {a : Int} {b : Nat} {v : List Int} : (digL a b v).length = if a = 1 then b else v.length := by
  unfold digL
  by_cases h : a = 1
  · rw [if_pos h, if_pos h, ← marksAt_all, marksAt_length]
  · rw [if_neg h, if_neg h]; split <;> simp
set_option maxHeartbeats 1000000 in
theorem digits_any (a : Int) (b : Nat) (c d f : Int) (A : Option Addr) (n k : Nat) (v : List Int) (w : World) (h : validCt a b c d f = true) (hv : voteB a b c d f v = true) (ha : RdI w A v) (hl : v.length = n) :
    Calls Tryz.prog 37 #[.agg #[.int .i64 a, .int .i64 b, .int .i64 c, .int .i64 d, .int .i64 f], .slice A n k] w fun e w' => ∃ A' m c', e = .returned (.slice A' m c') ∧ OwnI w' w.heap.size 3 A' m c' (digL a b v) ∧ Ext w w' := by
  obtain ⟨h1, h2, h3, h4, h5, _⟩ := valid_kind h
  obtain ⟨q1, q2, q3, q4, q5⟩ := vote_parts h hv
  clear h hv
  have hE := (Ext.refl w).alloc (.cells #[.int .i64 a, .int .i64 b, .int .i64 c, .int .i64 d, .int .i64 f] 25)
  have C := (Blk.new w 25 #[.int .i64 a, .int .i64 b, .int .i64 c, .int .i64 d, .int .i64 f]).cells
  subst hl
  rcases h1 with rfl | rfl | rfl | rfl
  · have hR := q1 rfl
    have HR := Lib.hid hR
    clear hR q1 q2 q3 q4
    go_enter Tryz.func37, Tryz.ntmps37
    go_wp2_with fail
    refine (choices_any _ b _ _ _ _ _ _ v _ (by omega) (ha.ext hE) rfl (by omega) HR.out).mono ?_
    rintro e w1 ⟨A', c', rfl, hO, hb⟩
    go_wp2
    go_ret
    exact ⟨_, _, _, rfl, hO.more hE.size, hE.trans hb⟩
  · clear q1 q2 q3 q4
    go_enter Tryz.func37, Tryz.ntmps37
    go_wp2_with fail
    refine (Clone_any _ _ _ v _ (ha.ext hE) rfl (by omega)).mono ?_
    rintro e w1 ⟨A', c', rfl, hO, hb⟩
    go_wp2
    go_ret
    exact ⟨_, _, _, rfl, hO.more hE.size, hE.trans hb⟩
  · have hR := (q3 rfl).1
    have HR := Lib.hid hR
    clear hR q1 q2 q3 q4
    go_enter Tryz.func37, Tryz.ntmps37
    go_wp2
    go_loopw [5, 20] (fun o i wr => ∃ (j : Nat) (A' : Option Addr) (c' : Nat), j ≤ v.length ∧ i = .int .i64 j ∧ o = .slice A' j c' ∧ OwnI wr w.heap.size 3 A' j c' ((v.take j).map fun x => x + 1) ∧ Ext w wr) (fun _ i _ => v.length - (intOf i).toNat)
    case atStart => exact ⟨0, _, _, Nat.zero_le _, rfl, rfl, ownI_lit [] rfl (by simp) (by simp) (Nat.zero_le _), hE.alloc _⟩
    case round =>
      clear C hE
      obtain ⟨j, A', c', hj, rfl, rfl, hO, hE⟩ := hrel
      by_cases hlt : j < v.length
      · obtain ⟨ad, rfl, hc⟩ := (ha.ext hE).at_ hlt
        have hr := allR_at HR.out hlt
        have hms := map1_take hlt
        generalize v[j] = x at *
        have HMS := Lib.hid hms
        clear hms
        have hsz := hE.size
        go_wp2_with (at_builtin; refine wpList_app1 intSl rfl _ _ rfl hO rfl rfl (by omega) hsz ?_; intro A2 c2 w2 hO2 hb2)
        rw [← HMS.out] at hO2
        go_roundw
        case rel => exact ⟨j + 1, A2, c2, by omega, by go_num, rfl, hO2, hE.then hb2 (Nat.le_refl _)⟩
        case measure => simp [intOf]; omega
      · obtain rfl : j = v.length := by omega
        rw [List.take_length] at hO
        go_wp2
        go_ret
        exact ⟨_, _, _, rfl, hO, hE⟩
  · clear q1 q2 q3 q4
    go_enter Tryz.func37, Tryz.ntmps37
    go_wp2_with fail
    refine (Clone_any _ _ _ v _ (ha.ext hE) rfl (by omega)).mono ?_
    rintro e w1 ⟨A', c', rfl, hO, hb⟩
    go_wp2
    go_ret
    exact ⟨_, _, _, rfl, hO.more hE.size, hE.trans hb⟩

theorem dig_facts {a : Int} {b : Nat} {c d f : Int} {v : List Int} (h : validCt a b c d f = true) (hv : voteB a b c d f v = true) :
    (digL a b v).length ≤ 8 ∧ 1 ≤ baseV a b f ∧ baseV a b f ≤ 27 ∧ (∀ x ∈ digL a b v, 0 ≤ x + 0 ∧ x + 0 ≤ 26) ∧ numR (baseV a b f) 0 (digL a b v) = codeV a b f v := by
  obtain ⟨h1, h2, h3, h4, h5, _⟩ := valid_kind h
  obtain ⟨q1, q2, q3, q4, q5⟩ := vote_parts h hv
  rw [digL_length]
  rcases h1 with rfl | rfl | rfl | rfl
  · refine ⟨by simp; omega, by simp [baseV], by simp [baseV], fun x hx => ?_, by simp [baseV, digL, codeV]⟩
    have := marksL_rng b v x (by simpa [digL] using hx)
    omega
  · refine ⟨by simpa using q5, by simp [baseV]; omega, by simp [baseV]; omega, fun x hx => ?_, by simp [baseV, digL, codeV]⟩
    have := allR_iff.1 (q2 rfl).2 x (by simpa [digL] using hx)
    omega
  · refine ⟨by simpa using q5, by simp [baseV]; omega, by simp [baseV]; omega, fun x hx => ?_, by simp [baseV, digL, codeV, numR_more]⟩
    have hx' : x ∈ v.map fun x => x + 1 := by simpa [digL] using hx
    obtain ⟨y, hy, rfl⟩ := List.mem_map.1 hx'
    have := allR_iff.1 (q3 rfl).1 y hy
    omega
  · refine ⟨by simpa using q5, by simp [baseV], by simp [baseV], fun x hx => ?_, by simp [baseV, digL, codeV]⟩
    have := allR_iff.1 (q4 rfl).1 x (by simpa [digL] using hx)
    omega

set_option maxHeartbeats 2000000 in
theorem code_any (a : Int) (b : Nat) (c d f : Int) (A : Option Addr) (n k : Nat) (v : List Int) (w : World) (h : validCt a b c d f = true) (hv : voteB a b c d f v = true) (ha : RdI w A v) (hl : v.length = n) :
    Calls Tryz.prog 19 #[.agg #[.int .i64 a, .int .i64 b, .int .i64 c, .int .i64 d, .int .i64 f], .slice A n k] w fun e w' => e = .returned (.int .i64 (codeV a b f v)) ∧ Ext w w' := by
  obtain ⟨d1, d2, d3, d4, d5⟩ := dig_facts h hv
  have HH := Lib.hid h
  have HV := Lib.hid hv
  have H4 := Lib.hid d4
  have H5 := Lib.hid d5
  clear h hv d4 d5
  have hE := (Ext.refl w).alloc (.cells #[.int .i64 a, .int .i64 b, .int .i64 c, .int .i64 d, .int .i64 f] 25)
  have C := (Blk.new w 25 #[.int .i64 a, .int .i64 b, .int .i64 c, .int .i64 d, .int .i64 f]).cells
  go_enter Tryz.func19, Tryz.ntmps19
  go_wp2
  go_region_held3 (fun w' => Ext w w' ∧ w'.cell? ⟨w.heap.size, 0, none⟩ = some (.int .i64 a) ∧ w'.cell? ⟨w.heap.size, 1, none⟩ = some (.int .i64 b) ∧ w'.cell? ⟨w.heap.size, 2, none⟩ = some (.int .i64 c) ∧ w'.cell? ⟨w.heap.size, 3, none⟩ = some (.int .i64 d) ∧ w'.cell? ⟨w.heap.size, 4, none⟩ = some (.int .i64 f))
    (first | exact ⟨hE.drew, C 0, C 1, C 2, C 3, C 4⟩ | exact ⟨hE.drew.trans hb, hb.cell (C 0), hb.cell (C 1), hb.cell (C 2), hb.cell (C 3), hb.cell (C 4)⟩ | exact ⟨(hE.drew.trans hb).trans hb2, hb2.cell (hb.cell (C 0)), hb2.cell (hb.cell (C 1)), hb2.cell (hb.cell (C 2)), hb2.cell (hb.cell (C 3)), hb2.cell (hb.cell (C 4))⟩)
    (first | (go_at_call 37; refine (digits_any _ _ _ _ _ _ _ _ v _ HH.out HV.out (ha.ext hE.drew) hl).mono ?_; rintro e w1 ⟨A', m, c', rfl, hO, hb⟩) | (go_at_call 38; refine (base_any _ _ _ _ _ _ HH.out).mono ?_; rintro e w2 ⟨rfl, hb2⟩) | (go_at_call 36; refine (codeOf_any _ _ _ (digL a b v) _ _ (hO.ext hb2).rd hO.len (by have := hO.len; omega) d2 d3 H4.out).mono ?_; rintro e w3 ⟨rfl, rfl⟩))
  go_wp2
  go_ret
  exact ⟨ret_int H5.out, (hE.drew.trans hb).trans hb2⟩
def coVal (a b c d f : Int) (v : List Int) : Int := if ivB a b c d f v then codeV a b f v else 0

set_option maxHeartbeats 1000000 in
theorem sCodeOf_any (a b c d f : Int) (A : Option Addr) (n k : Nat) (v : List Int) (w : World) (ha : RdI w A v) (hl : v.length = n) (hn : n ≤ 1048576) (hk : n ≤ k ∧ k ≤ maxLen) :
    Calls Tryz.prog 7 #[.agg #[.int .i64 a, .int .i64 b, .int .i64 c, .int .i64 d, .int .i64 f], .slice A n k] w fun e w' => e = .returned (.tuple #[.int .i64 (coVal a b c d f v), .bool (ivB a b c d f v)]) ∧ Ext w w' := by
  have hE := (Ext.refl w).alloc (.cells #[.int .i64 a, .int .i64 b, .int .i64 c, .int .i64 d, .int .i64 f] 25)
  cases h : ivB a b c d f v
  · have hv : coVal a b c d f v = 0 := by simp [coVal, h]
    rw [hv]; clear hv
    go_enter Tryz.func7, Tryz.ntmps7
    go_wp2_with fail
    refine (vGood_any _ _ _ _ _ _ _ _ v _ (ha.ext hE) hl hn hk).mono ?_
    rintro e w1 ⟨he, hb⟩
    rw [h] at he; subst he
    go_wp2
    go_ret2
    exact ⟨rfl, hE.trans hb⟩
  · have hv : coVal a b c d f v = codeV a b f v := by simp [coVal, h]
    rw [hv]; clear hv
    have hp : validCt a b c d f = true ∧ voteB a b c d f v = true := by simpa [ivB] using h
    have H := Lib.hid h
    have H1 := Lib.hid hp.1
    have H2 := Lib.hid hp.2
    obtain ⟨B, rfl⟩ := Int.eq_ofNat_of_zero_le (valid_kind hp.1).2.1
    clear h hp
    go_enter Tryz.func7, Tryz.ntmps7
    go_wp2_with fail
    refine (vGood_any _ _ _ _ _ _ _ _ v _ (ha.ext hE) hl hn hk).mono ?_
    rintro e w1 ⟨he, hb⟩
    rw [H.out] at he; subst he
    have BB := (Blk.new w 25 _).ext hb
    have E := hE.trans hb
    clear hb
    have C := BB.cells
    go_wp2_with fail
    refine (vCode_any _ _ _ _ _ _ _ _ v _ H1.out H2.out (ha.ext E) hl hn).mono ?_
    rintro e w2 ⟨rfl, hb⟩
    go_wp2
    go_ret2
    exact ⟨rfl, E.trans hb⟩

set_option maxHeartbeats 1000000 in
theorem iCodeOf_any (a b c d f : Int) (A : Option Addr) (n k : Nat) (v : List Int) (w : World) (ha : RdI w A v) (hl : v.length = n) (hn : n ≤ 1048576) (hk : n ≤ k ∧ k ≤ maxLen) :
    Calls Tryz.prog 6 #[.agg #[.int .i64 a, .int .i64 b, .int .i64 c, .int .i64 d, .int .i64 f], .slice A n k] w fun e w' => e = .returned (.tuple #[.int .i64 (coVal a b c d f v), .bool (ivB a b c d f v)]) ∧ Ext w w' := by
  have hE := (Ext.refl w).alloc (.cells #[.int .i64 a, .int .i64 b, .int .i64 c, .int .i64 d, .int .i64 f] 25)
  cases h : ivB a b c d f v
  · have hv : coVal a b c d f v = 0 := by simp [coVal, h]
    rw [hv]; clear hv
    go_enter Tryz.func6, Tryz.ntmps6
    go_wp2_with fail
    refine (areVote_any _ _ _ _ _ _ _ _ v _ (ha.ext hE) hl hn hk).mono ?_
    rintro e w1 ⟨he, hb⟩
    rw [h] at he; subst he
    go_wp2
    go_ret2
    exact ⟨rfl, hE.trans hb⟩
  · have hv : coVal a b c d f v = codeV a b f v := by simp [coVal, h]
    rw [hv]; clear hv
    have hp : validCt a b c d f = true ∧ voteB a b c d f v = true := by simpa [ivB] using h
    have H := Lib.hid h
    have H1 := Lib.hid hp.1
    have H2 := Lib.hid hp.2
    obtain ⟨B, rfl⟩ := Int.eq_ofNat_of_zero_le (valid_kind hp.1).2.1
    clear h hp
    go_enter Tryz.func6, Tryz.ntmps6
    go_wp2_with fail
    refine (areVote_any _ _ _ _ _ _ _ _ v _ (ha.ext hE) hl hn hk).mono ?_
    rintro e w1 ⟨he, hb⟩
    rw [H.out] at he; subst he
    have BB := (Blk.new w 25 _).ext hb
    have E := hE.trans hb
    clear hb
    have C := BB.cells
    go_wp2_with fail
    refine (code_any _ B _ _ _ _ _ _ v _ H1.out H2.out (ha.ext E) hl).mono ?_
    rintro e w2 ⟨rfl, hb⟩
    go_wp2
    go_ret2
    exact ⟨rfl, E.trans hb⟩
end Go.Proofs.YtnekpofaflpmdaaGreatDoor
