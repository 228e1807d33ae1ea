/- Contracts for labels: labelled, l3With; and for hashes of labelled lists. -/
import Derived.Test.YtnhdohjlbchniaaGreatProg
import Derived.Test.YtnhdohjlbchniaaGreatHash
namespace Go.Proofs.YtnhdohjlbchniaaGreat
open Go.RowKit

def labPre (s : ByteArray) (k : Nat) : List Int := (s.size : Int) :: (s.data.toList.take k).map fun c => (c.toNat : Int)
def labL (s : ByteArray) (l : List Int) : List Int := labPre s s.size ++ l
theorem labPre_length {s : ByteArray} {k : Nat} (h : k ≤ s.size) : (labPre s k).length = k + 1 := by
  simp [labPre]; exact Nat.min_eq_left h
theorem labPre_succ {s : ByteArray} {k : Nat} (h : k < s.size) : labPre s k ++ [(s[k].toNat : Int)] = labPre s (k + 1) := by
  unfold labPre
  rw [List.take_succ_eq_append_getElem (by simpa using h)]
  simp
  rfl
theorem labL_length (s : ByteArray) (l : List Int) : (labL s l).length = s.size + 1 + l.length := by
  unfold labL
  rw [List.length_append, labPre_length (Nat.le_refl _)]
theorem labL_rng {s : ByteArray} {l : List Int} (hs : s.size ≤ 1000000) (hR : allR l 0 4611686018427387903 = true) : allR (labL s l) 0 4611686018427387903 = true := by
  rw [allR_iff] at hR ⊢
  intro x hx
  unfold labL labPre at hx
  rw [List.mem_append, List.mem_cons, List.mem_map] at hx
  rcases hx with (rfl | ⟨c, _, rfl⟩) | hx
  · omega
  · have := c.toNat_lt
    omega
  · exact hR x hx

set_option maxHeartbeats 1000000 in
theorem l3With_any (s : ByteArray) (A : Option Addr) (n c : Nat) (l : List Int) (w : World) (hs : s.size ≤ 1000000) (ha : RdI w A l) (hl : l.length = n) (hn : n ≤ 1000000) :
    Calls Tryz.prog 116 #[.string s, .slice A n c] w fun e w' => ∃ A' c', e = .returned (.slice A' (s.size + 1 + n) c') ∧ OwnI w' w.heap.size 3 A' (s.size + 1 + n) c' (labL s l) ∧ Ext w w' := by
  subst hl
  have hO0 : OwnI (w.alloc (.cells #[.int .i64 s.size] 3)) w.heap.size 3 (some ⟨w.heap.size, 0, none⟩) 1 1 [(s.size : Int)] :=
    ownI_lit (w := w) (base := w.heap.size) (e := 3) (n := 1) [(s.size : Int)] rfl rfl (Nat.le_refl _) (by unfold maxLen; simp)
  go_enter Tryz.func116, Tryz.ntmps116
  go_wp2
  go_loopw [5, 6] (fun v i wr => ∃ (j : Nat) (A' : Option Addr) (c' : Nat), j ≤ s.size ∧ i = .int .i64 j ∧ v = .slice A' (j + 1) c' ∧ OwnI wr w.heap.size 3 A' (j + 1) c' (labPre s j) ∧ Ext w wr) (fun _ i _ => s.size - (intOf i).toNat)
  case atStart => exact ⟨0, _, _, Nat.zero_le _, rfl, rfl, hO0, (Ext.refl w).alloc _⟩
  case round =>
    obtain ⟨j, A', c', hj, rfl, rfl, hO, hE⟩ := hrel
    have hsz := hE.size
    by_cases hlt : j < s.size
    · have hsu := labPre_succ hlt
      have hub := s[j].toNat_lt
      have HSU := Lib.hid hsu
      clear hsu
      go_wp2_with (at_builtin; refine wpList_app1 intSl rfl _ _ rfl hO rfl rfl (by omega) hsz ?_; intro A2 c2 w2 hO2 hb2)
      rw [HSU.out] at hO2
      go_roundw
      case rel => exact ⟨j + 1, A2, c2, by omega, by go_num, rfl, hO2, hE.then hb2 (Nat.le_refl _)⟩
      case measure => simp [intOf]; omega
    · obtain rfl : j = s.size := by omega
      go_wp2_with (at_builtin; refine wpList_appL intSl rfl _ _ rfl hO rfl (ha.ext hE) rfl rfl (by omega) hsz ?_; intro A2 c2 w2 hO2 hb2)
      go_ret
      exact ⟨_, _, rfl, hO2, hE.then hb2 (Nat.le_refl _)⟩

set_option maxHeartbeats 1000000 in
theorem labelled_any (s : ByteArray) (A : Option Addr) (n c : Nat) (l : List Int) (w : World) (hs : s.size ≤ 1000000) (ha : RdI w A l) (hl : l.length = n) (hn : n ≤ 1000000) :
    Calls Tryz.prog 114 #[.string s, .slice A n c] w fun e w' => ∃ A' c', e = .returned (.slice A' (s.size + 1 + n) c') ∧ OwnI w' w.heap.size 3 A' (s.size + 1 + n) c' (labL s l) ∧ Ext w w' := by
  subst hl
  have hO0 : OwnI (w.alloc (.cells #[.int .i64 s.size] 3)) w.heap.size 3 (some ⟨w.heap.size, 0, none⟩) 1 1 [(s.size : Int)] :=
    ownI_lit (w := w) (base := w.heap.size) (e := 3) (n := 1) [(s.size : Int)] rfl rfl (Nat.le_refl _) (by unfold maxLen; simp)
  go_enter Tryz.func114, Tryz.ntmps114
  go_wp2
  go_loopw [5, 12] (fun v i wr => ∃ (j : Nat) (A' : Option Addr) (c' : Nat), j ≤ s.size ∧ i = .int .i64 j ∧ v = .slice A' (j + 1) c' ∧ OwnI wr w.heap.size 3 A' (j + 1) c' (labPre s j) ∧ Ext w wr) (fun _ i _ => s.size - (intOf i).toNat)
  case atStart => exact ⟨0, _, _, Nat.zero_le _, rfl, rfl, hO0, (Ext.refl w).alloc _⟩
  case round =>
    obtain ⟨j, A', c', hj, rfl, rfl, hO, hE⟩ := hrel
    have hsz := hE.size
    by_cases hlt : j < s.size
    · have hsu := labPre_succ hlt
      have hub := s[j].toNat_lt
      have HSU := Lib.hid hsu
      clear hsu
      go_wp2_with (at_builtin; refine wpList_app1 intSl rfl _ _ rfl hO rfl rfl (by omega) hsz ?_; intro A2 c2 w2 hO2 hb2)
      rw [HSU.out] at hO2
      go_roundw
      case rel => exact ⟨j + 1, A2, c2, by omega, by go_num, rfl, hO2, hE.then hb2 (Nat.le_refl _)⟩
      case measure => simp [intOf]; omega
    · obtain rfl : j = s.size := by omega
      go_wp2_with (at_builtin; refine wpList_appL intSl rfl _ _ rfl hO rfl (ha.ext hE) rfl rfl (by omega) hsz ?_; intro A2 c2 w2 hO2 hb2)
      go_ret
      exact ⟨_, _, rfl, hO2, hE.then hb2 (Nat.le_refl _)⟩

set_option maxHeartbeats 1000000 in
theorem hLabelled_any (s : ByteArray) (A : Option Addr) (n c : Nat) (l : List Int) (w : World) (hs : s.size ≤ 1000) (ha : RdI w A l) (hl : l.length = n) (hn : n ≤ 100000) (hR : allR l 0 4611686018427387903 = true) :
    Calls Tryz.prog 101 #[.string s, .slice A n c] w fun e w' => e = .returned (.int .i64 (hInt (labL s l))) ∧ Ext w w' := by
  have HR := Lib.hid hR
  clear hR
  go_enter Tryz.func101, Tryz.ntmps101
  go_wp2_with fail
  refine (l3With_any s _ _ _ l _ (by omega) ha hl (by omega)).mono ?_
  rintro e w1 ⟨A', c', rfl, hO, hE⟩
  go_wp2_with fail
  refine (hInts_any _ _ _ (labL s l) _ hO.rd (by rw [labL_length]; omega) (by omega) (labL_rng (by omega) HR.out)).mono ?_
  rintro e w2 ⟨rfl, hE2⟩
  go_wp2
  go_ret
  exact ⟨rfl, hE.trans hE2⟩

/-- What HashLabelled answers. -/
def hlOk (s : ByteArray) (l : List Int) : Bool := decide (s.size ≤ 40) && (decide (s.size + 1 + l.length ≤ 400) && allR l 0 4611686018427387903)
theorem isDigest_ans (w : World) (l : List Int) : Answers 122 #[] w l (fun x => inR x 0 4611686018427387903) := by
  refine ⟨fun args w => by kernel_rfl, fun x _ w2 _ => ?_⟩
  go_enter Tryz.func122, Tryz.ntmps122
  go_wp2_with fail
  refine (within_any _ _ _ _).mono ?_
  rintro e w1 ⟨rfl, rfl⟩
  go_wp2
  go_ret
  exact ⟨rfl, Ext.refl _⟩

set_option maxHeartbeats 400000 in
theorem areDigests_any (A : Option Addr) (n c : Nat) (l : List Int) (w : World) (ha : RdI w A l) (hl : l.length = n) (hn : n ≤ 1000000) :
    Calls Tryz.prog 119 #[.slice A n c] w fun e w' => e = .returned (.bool (decide (n ≤ 400) && allR l 0 4611686018427387903)) ∧ Ext w w' := by
  have hf : ∀ args w, (callFunc 122 args).run Tryz.prog w = .ok (.enter 122 args) w := fun args w => by kernel_rfl
  by_cases h : n ≤ 400
  · have hz : (n : Int) ≤ 400 := by omega
    go_enter Tryz.func119, Tryz.ntmps119
    go_wp2_with fail
    refine (areAll_any _ _ _ l _ _ _ _ ha hl (by unfold maxLen; omega) (isDigest_ans _ l)).mono ?_
    rintro e w1 ⟨rfl, hE⟩
    go_wp2
    go_ret
    refine ⟨ret_bool ?_, hE⟩
    rw [decide_eq_true h, Bool.true_and]; rfl
  · have hz : ¬ (n : Int) ≤ 400 := by omega
    go_enter Tryz.func119, Tryz.ntmps119
    go_wp2
    go_ret
    refine ⟨ret_bool ?_, Ext.refl _⟩
    first | rfl | (rw [decide_eq_false h, Bool.false_and])

set_option maxHeartbeats 400000 in
theorem iHashInts_any (A : Option Addr) (n c : Nat) (l : List Int) (w : World) (ha : RdI w A l) (hl : l.length = n) (hn : n ≤ 1000000) :
    Calls Tryz.prog 113 #[.slice A n c] w fun e w' => e = .returned (.tuple #[.int .i64 (if decide (n ≤ 400) && allR l 0 4611686018427387903 then hInt l else 0), .bool (decide (n ≤ 400) && allR l 0 4611686018427387903)]) ∧ Ext w w' := by
  cases h : decide (n ≤ 400) && allR l 0 4611686018427387903
  · have H := Lib.hid h
    clear h
    go_enter Tryz.func113, Tryz.ntmps113
    go_wp2_with fail
    refine (areDigests_any _ _ _ l _ ha hl hn).mono ?_
    rintro e w1 ⟨he, hE⟩
    rw [H.out] at he; subst he
    go_wp2
    go_ret2
    exact ⟨rfl, hE⟩
  · have H := Lib.hid h
    clear h
    go_enter Tryz.func113, Tryz.ntmps113
    go_wp2_with fail
    refine (areDigests_any _ _ _ l _ ha hl hn).mono ?_
    rintro e w1 ⟨he, hE⟩
    rw [H.out] at he; subst he
    go_wp2_with fail
    refine (hash_any _ _ _ l _ (ha.ext hE) hl hn (by have := H.out; rw [Bool.and_eq_true] at this; exact this.2)).mono ?_
    rintro e w2 ⟨rfl, hE2⟩
    go_wp2
    go_ret2
    exact ⟨rfl, hE.trans hE2⟩

theorem labL_allR {s : ByteArray} {l : List Int} (hs : s.size ≤ 1000000) : allR (labL s l) 0 4611686018427387903 = allR l 0 4611686018427387903 := by
  cases h : allR l 0 4611686018427387903
  · cases h2 : allR (labL s l) 0 4611686018427387903
    · rfl
    · rw [allR_iff] at h2
      have : allR l 0 4611686018427387903 = true := allR_iff.2 fun x hx => h2 x (by unfold labL; exact List.mem_append_right _ hx)
      rw [h] at this; cases this
  · exact labL_rng hs h
noncomputable def hlVal (s : ByteArray) (l : List Int) : Int := if hlOk s l then hInt (labL s l) else 0

set_option maxHeartbeats 1000000 in
theorem iHashLabelled_any (s : ByteArray) (A : Option Addr) (n c : Nat) (l : List Int) (w : World) (ha : RdI w A l) (hl : l.length = n) (hn : n ≤ 1000000) (hs : s.size ≤ 1000000000) :
    Calls Tryz.prog 99 #[.string s, .slice A n c] w fun e w' => e = .returned (.tuple #[.int .i64 (hlVal s l), .bool (hlOk s l)]) ∧ Ext w w' := by
  by_cases h1 : s.size ≤ 40
  · by_cases h2 : n ≤ 400
    · have h0 : hlOk s l = (decide (s.size + 1 + n ≤ 400) && allR (labL s l) 0 4611686018427387903) := by
        unfold hlOk; rw [labL_allR (by omega), decide_eq_true h1, Bool.true_and, hl]
      have hv : hlVal s l = if (decide (s.size + 1 + n ≤ 400) && allR (labL s l) 0 4611686018427387903) then hInt (labL s l) else 0 := by rw [hlVal, h0]
      rw [h0, hv]
      clear h0 hv
      generalize hG : (decide (s.size + 1 + n ≤ 400) && allR (labL s l) 0 4611686018427387903) = G
      generalize hV : (if G then hInt (labL s l) else 0) = V
      have HG := Lib.hid hG
      have HV := Lib.hid hV
      clear hG hV
      have z1 : ¬ (40 : Int) < (s.size : Int) := by omega
      have z2 : ¬ (400 : Int) < (n : Int) := by omega
      go_enter Tryz.func99, Tryz.ntmps99
      go_wp2_with fail
      refine (labelled_any s _ _ _ l _ (by omega) ha hl (by omega)).mono ?_
      rintro e w1 ⟨A', c', rfl, hO, hE⟩
      go_wp2_with fail
      refine (iHashInts_any _ _ _ (labL s l) _ hO.rd (by rw [labL_length]; omega) (by omega)).mono ?_
      rintro e w2 ⟨he, hE2⟩
      rw [HG.out, HV.out] at he; subst he
      go_wp2
      go_ret2
      exact ⟨rfl, hE.trans hE2⟩
    · have h0 : hlOk s l = false := by unfold hlOk; rw [decide_eq_false (show ¬ s.size + 1 + l.length ≤ 400 by omega)]; simp
      have hv : hlVal s l = 0 := by rw [hlVal, h0]; rfl
      rw [h0, hv]
      clear h0 hv
      have z1 : ¬ (40 : Int) < (s.size : Int) := by omega
      have z2 : (400 : Int) < (n : Int) := by omega
      go_enter Tryz.func99, Tryz.ntmps99
      go_wp2
      go_ret2
      exact ⟨rfl, Ext.refl _⟩
  · have h0 : hlOk s l = false := by unfold hlOk; rw [decide_eq_false h1]; rfl
    have hv : hlVal s l = 0 := by rw [hlVal, h0]; rfl
    rw [h0, hv]
    clear h0 hv
    have z1 : (40 : Int) < (s.size : Int) := by omega
    go_enter Tryz.func99, Tryz.ntmps99
    go_wp2
    go_ret2
    exact ⟨rfl, Ext.refl _⟩
end Go.Proofs.YtnhdohjlbchniaaGreat
