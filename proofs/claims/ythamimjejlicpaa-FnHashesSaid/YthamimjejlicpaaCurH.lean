/- Drawn lists of digests; with a group, a label and a number. -/
import Derived.Test.YthamimjejlicpaaProg
import Derived.Test.YthamimjejlicpaaCurL
import Derived.Test.YthamimjejlicpaaCurR
import Derived.Test.YthamimjejlicpaaHash
namespace Go.Proofs.Ythamimjejlicpaa
open Go.RowKit

set_option maxRecDepth 100000 in
set_option maxHeartbeats 4000000 in
theorem digest_any {B : Nat} (g k : Nat) (w : World) (h : CurS B w g k) (hk : k ≤ 1000000) (hB : B ≤ w.heap.size) :
    Calls Try.prog 135 #[.pointer (some ⟨g, 0, none⟩)] w fun e w' => ∃ d : Int, e = .returned (.int .i64 d) ∧ Only [g] w w' ∧ CurS B w' g (k + 4) := by
  have hg := h.lt
  have h60 : Hid (∀ (w1 w2 : World) (r : Nat), r < 60000 ∨ r = 0 → CurS B w2 g (k + 4) → Only [g] w w2 → Calls Try.prog 75 #[.slice (some ⟨w2.heap.size, 0, none⟩) 1 1] (w2.alloc (.cells #[.int .i64 (r : Int)] 3)) fun e w' => ∃ d : Int, e = .returned (.int .i64 d) ∧ Only [g] w w' ∧ CurS B w' g (k + 4)) := by
    intro _ w2 r hr hC hO
    have hI : OwnI (w2.alloc (.cells (ints [(r : Int)]).toArray 3)) w2.heap.size 3 (some ⟨w2.heap.size, 0, none⟩) 1 1 [(r : Int)] := ownI_lit [(r : Int)] rfl rfl (Nat.le_refl _) (by unfold maxLen; omega)
    have hR : allR [(r : Int)] 0 4611686018427387903 = true := by rw [allR_iff]; intro x hx; rw [List.mem_singleton.1 hx]; omega
    have hal := (Ext.refl w2).alloc (.cells (ints [(r : Int)]).toArray 3)
    refine (hInts_any _ 1 1 [(r : Int)] _ hI.rd rfl (by omega) hR).mono ?_
    rintro e w3 ⟨rfl, hb⟩
    have hx := hal.trans hb
    exact ⟨_, rfl, hO.thenOnly (hx.toOnly _), hC.ext hx⟩
  go_enter Try.func135, Try.ntmps135
  go_wp2_with fail
  refine (pick_any g k 16 _ h (by omega) (by omega)).mono ?_
  rintro e w1 ⟨r, rfl, hr, hO1, hC1⟩
  have hz1 := hO1.size
  clear h
  by_cases h0 : (r : Int) = 0
  · have e0 : ((r : Int) == 0) = true := by simp [h0]
    go_wp2_with fail
    refine (among_newh g _ 6 [-1, 4611686018427387903, 4611686018427387904, 2147483648, 2147483647, 2147483647] _ _ _ rfl hC1 (by omega) rfl rfl (by omega) (by omega) (by omega)).mono ?_
    rintro e w2 ⟨d, rfl, _, hO2, hC2⟩
    go_wp2
    go_ret
    exact ⟨d, rfl, hO1.thenOnly hO2, hC2⟩
  · have e0 : ((r : Int) == 0) = false := by simp; omega
    by_cases h1 : (r : Int) = 1 ∨ (r : Int) = 2 ∨ (r : Int) = 3
    · rcases h1 with h1 | h1 | h1
      · have e1 : ((r : Int) == 1) = true := by simp [h1]
        go_wp2_with fail
        refine (pick_any g _ 60000 _ hC1 (by omega) (by omega)).mono ?_
        rintro e w2 ⟨r2, rfl, hr2, hO2, hC2⟩
        go_wp2_with fail
        refine (h60.out w1 w2 r2 (by omega) hC2 (hO1.thenOnly hO2)).mono ?_
        rintro e w3 ⟨d, rfl, hO3, hC3⟩
        go_wp2
        go_ret
        exact ⟨d, rfl, hO3, hC3⟩
      · have e1 : ((r : Int) == 1) = false := by simp [h1]
        have e2 : ((r : Int) == 2) = true := by simp [h1]
        go_wp2_with fail
        refine (pick_any g _ 60000 _ hC1 (by omega) (by omega)).mono ?_
        rintro e w2 ⟨r2, rfl, hr2, hO2, hC2⟩
        go_wp2_with fail
        refine (h60.out w1 w2 r2 (by omega) hC2 (hO1.thenOnly hO2)).mono ?_
        rintro e w3 ⟨d, rfl, hO3, hC3⟩
        go_wp2
        go_ret
        exact ⟨d, rfl, hO3, hC3⟩
      · have e1 : ((r : Int) == 1) = false := by simp [h1]
        have e2 : ((r : Int) == 2) = false := by simp [h1]
        have e3 : ((r : Int) == 3) = true := by simp [h1]
        go_wp2_with fail
        refine (pick_any g _ 60000 _ hC1 (by omega) (by omega)).mono ?_
        rintro e w2 ⟨r2, rfl, hr2, hO2, hC2⟩
        go_wp2_with fail
        refine (h60.out w1 w2 r2 (by omega) hC2 (hO1.thenOnly hO2)).mono ?_
        rintro e w3 ⟨d, rfl, hO3, hC3⟩
        go_wp2
        go_ret
        exact ⟨d, rfl, hO3, hC3⟩
    · have e1 : ((r : Int) == 1) = false := by simp; omega
      have e2 : ((r : Int) == 2) = false := by simp; omega
      have e3 : ((r : Int) == 3) = false := by simp; omega
      go_wp2_with fail
      refine (pick_any g _ 200 _ hC1 (by omega) (by omega)).mono ?_
      rintro e w2 ⟨r2, rfl, hr2, hO2, hC2⟩
      go_wp2
      go_ret
      exact ⟨_, rfl, hO1.thenOnly hO2, hC2⟩
set_option maxRecDepth 100000 in
set_option maxHeartbeats 4000000 in
theorem digests_any {B : Nat} (g k : Nat) (w : World) (h : CurS B w g k) (hk : k ≤ 900000) (hB : B ≤ w.heap.size) :
    Calls Try.prog 71 #[.pointer (some ⟨g, 0, none⟩)] w fun e w' => ∃ A n c p, e = .returned (.slice A n c) ∧ OwnI w' w.heap.size 3 A n c p ∧ n ≤ 500 ∧ Only [g] w w' ∧ CurS B w' g (k + 60) := by
  have hg := h.lt
  go_enter Try.func71, Try.ntmps71
  go_wp2_with fail
  refine (pick_any g k 8 _ h (by omega) (by omega)).mono ?_
  rintro e w1 ⟨K, rfl, hK, hO1, hC1⟩
  have hz1 := hO1.size
  have hK2 : K ≤ 7 := by omega
  clear h hK
  go_wp2_with fail
  go_loopw [3, 4] (fun s i wr => ∃ (j x : Nat) (A : Option Addr) (c : Nat) (l : List Int), j + x ≤ 7 ∧ s = .slice A j c ∧ i = .int .i64 x ∧ OwnI wr w.heap.size 3 A j c l ∧ Only [g] w wr ∧ CurS B wr g (k + 2 + 4 * j)) (fun _ i _ => (intOf i).toNat)
  case atStart => exact ⟨0, K, none, 0, [], by omega, rfl, rfl, OwnI.nil _ _ _, hO1, hC1⟩
  case round =>
    clear hO1 hC1 hz1 hK2
    obtain ⟨j, x, A, c, l, hjx, rfl, rfl, hO, hW, hC⟩ := hrel
    have hwz := hW.size
    by_cases hlt : (0 : Int) < x
    · go_wp2_with fail
      refine (digest_any g _ _ hC (by omega) (by omega)).mono ?_
      rintro e w3 ⟨r, rfl, hO1, hC1⟩
      replace hO := hO.only hO1 (apart_of hO.high (by omega))
      replace hW := hW.thenOnly hO1
      have hsz := hW.size
      go_wp2_with (at_builtin; refine wpList_app1 intSl rfl _ _ rfl hO rfl rfl (by omega) hsz ?_; intro A2 c2 w2 hO2 hb2)
      go_roundw
      case rel => exact ⟨j + 1, x - 1, A2, c2, _, by omega, rfl, by congr 1; omega, hO2, hW.thenBelow hb2 (Nat.le_refl _), (hC1.below (hb2.mono hB)).more (by omega)⟩
      case measure => simp only [intOf]; omega
    · go_wp2_with fail
      refine (one_any g _ 24 _ hC (by omega) (by omega)).mono ?_
      rintro e w2 ⟨b, rfl, hO1, hC1⟩
      replace hO := hO.only hO1 (apart_of hO.high (by omega))
      replace hW := hW.thenOnly hO1
      have hsz := hW.size
      cases b
      · go_wp2
        go_ret
        exact ⟨_, _, _, _, rfl, hO, by omega, hW, hC1.more (by omega)⟩
      · go_wp2_with fail
        refine (pick_any g _ 6 _ hC1 (by omega) (by omega)).mono ?_
        rintro e w3 ⟨r, rfl, hr, hO3, hC3⟩
        replace hW := hW.thenOnly hO3
        have hsz3 := hW.size
        have hr5 : r ≤ 5 := by omega
        go_wp2_with (at_make; refine wpList_mkI intSl rfl _ _ rfl _ _ _ _ (396 + r) rfl rfl (by push_cast; rfl) (by push_cast; rfl) (by omega) w.heap.size hsz3 ?_; intro w4 hO4 hE4 hz4)
        go_ret
        exact ⟨_, _, _, _, rfl, hO4, by omega, hW.thenOnly (hE4.toOnly _), (hC3.ext hE4).more (by omega)⟩
def DrawnI (w : World) (e : Ending) (w' : World) : Prop := ∃ A n c p, e = .returned (.slice A n c) ∧ OwnI w' w.heap.size 3 A n c p ∧ n ≤ 500 ∧ Ext w w'
set_option maxHeartbeats 1000000 in
theorem DrawHashInts_any (A : Option Addr) (n c : Nat) (l : List Int) (w : World) (hR : RdB w A l) (hl : l.length = n) (hn : n ≤ 9223372036854775807) (hx : ∀ x ∈ l, 0 ≤ x ∧ x ≤ 255) :
    Calls Try.prog 22 #[.slice A n c] w fun e w' => DrawnI w e w' := by
  have hC := new_cur (c := c) hR hl hn hx
  clear hl hx hR
  have hE1 := (Ext.refl w).alloc (.cells #[.slice A n c, .int .i64 0, .int .u64 0] 85)
  go_enter Try.func22, Try.ntmps22
  go_wp2_with fail
  refine (digests_any w.heap.size 0 _ hC (by omega) (by simp)).mono ?_
  rintro e w1 ⟨A1, n1, c1, p, rfl, hO, hn1, hO1, hC1⟩
  go_wp2
  go_ret
  exact ⟨A1, n1, c1, p, rfl, hO.more (by simp), hn1, hE1.only hO1 (fun b hb => by simp at hb; omega)⟩
def DrawnGSLI (w : World) (e : Ending) (w' : World) : Prop := ∃ (P Q G : Int) (s : ByteArray) (A : Option Addr) (n c : Nat) (p : List Int) (k : Int), e = .returned (.tuple #[.agg #[.int .i64 P, .int .i64 Q, .int .i64 G], .string s, .slice A n c, .int .i64 k]) ∧ GrpD P Q G ∧ s.size ≤ 100 ∧ OwnI w' w.heap.size 3 A n c p ∧ n ≤ 500 ∧ (-10 ≤ k ∧ k ≤ 200) ∧ Ext w w'
set_option maxRecDepth 100000 in
set_option maxHeartbeats 4000000 in
theorem DrawChallenges_any (A : Option Addr) (n c : Nat) (l : List Int) (w : World) (hR : RdB w A l) (hl : l.length = n) (hn : n ≤ 9223372036854775807) (hx : ∀ x ∈ l, 0 ≤ x ∧ x ≤ 255) :
    Calls Try.prog 27 #[.slice A n c] w fun e w' => DrawnGSLI w e w' := by
  have hE0 := (Ext.refl w).alloc (.cells #[.int .i64 0, .int .i64 0, .int .i64 0] 25)
  have B2 := Blk.new w 25 #[.int .i64 0, .int .i64 0, .int .i64 0]
  have hC := new_cur (c := c) (hR.ext hE0) hl hn hx
  simp only [World.size_alloc] at hC
  clear hl hx hR
  replace B2 := B2.alloc (.cells #[.slice A n c, .int .i64 0, .int .u64 0] 85)
  have hE1 := hE0.alloc (.cells #[.slice A n c, .int .i64 0, .int .u64 0] 85)
  go_enter Try.func27, Try.ntmps27
  go_wp2_with fail
  refine (anyGroup_any (w.heap.size + 1) 0 _ hC (by omega) (by simp)).mono ?_
  rintro e w1 ⟨P, Q, G, rfl, hD, hO1, hC1⟩
  have hsz1 : w.heap.size + 2 ≤ w1.heap.size := by have := hO1.size; simp at this; omega
  have E := hE1.only hO1 (fun b hb => by simp at hb; omega)
  replace B2 := B2.only hO1 (by simp)
  clear hE0 hE1 hC hO1
  go_wp2_with fail
  refine (label_any (w.heap.size + 1) _ _ hC1 (by omega) (by omega)).mono ?_
  rintro e w2 ⟨s, rfl, hs, hO2, hC2⟩
  have hsz2 : w.heap.size + 2 ≤ w2.heap.size := by have := hO2.size; omega
  replace E := E.only hO2 (fun b hb => by simp at hb; omega)
  replace B2 := B2.only hO2 (by simp)
  clear hO2 hC1
  go_wp2_with fail
  refine (digests_any (w.heap.size + 1) _ _ hC2 (by omega) (by omega)).mono ?_
  rintro e w3 ⟨A1, n1, c1, p, rfl, hO, hn1, hO3, hC3⟩
  have hsz3 : w.heap.size + 2 ≤ w3.heap.size := by have := hO3.size; omega
  replace E := E.only hO3 (fun b hb => by simp at hb; omega)
  replace B2 := B2.only hO3 (by simp)
  replace hO := hO.more hsz2
  clear hO3 hC2
  go_wp2_with fail
  refine (among_newh (w.heap.size + 1) _ 7 [0, 1, 2, 5, 100, 101, -1] _ _ _ rfl hC3 (by omega) rfl rfl (by omega) (by omega) (by omega)).mono ?_
  rintro e w4 ⟨r, rfl, hr, hO4, hC4⟩
  have hsz4 : w.heap.size + 2 ≤ w4.heap.size := by have := hO4.size; omega
  replace E := E.only hO4 (fun b hb => by simp at hb; omega)
  replace B2 := B2.only hO4 (by simp)
  replace hO := hO.only hO4 (apart_of hO.high (by omega))
  have C := B2.cells
  have F := B2.frozen
  have CZ := (((B2.set_ 0 (.int .i64 P)).set_ 1 (.int .i64 Q)).set_ 2 (.int .i64 G)).cells
  have hr9 : -10 ≤ r ∧ r ≤ 200 := by simp at hr; omega
  clear hr hO4
  go_wp2
  refine bodyPost_ret (v := .tuple #[.agg #[.int .i64 P, .int .i64 Q, .int .i64 G], .string s, .slice A1 n1 c1, .int .i64 r]) (by simp [results, Try.results27, CZ, go_sem]) rfl ?_
  have hst : Only [w.heap.size] w4 (((w4.setCell ⟨w.heap.size, 0, none⟩ (.int .i64 P)).setCell ⟨w.heap.size, 1, none⟩ (.int .i64 Q)).setCell ⟨w.heap.size, 2, none⟩ (.int .i64 G)) := ((((Only.refl _ w4).setCell (p := ⟨w.heap.size, 0, none⟩) (by simp) _).setCell (p := ⟨w.heap.size, 1, none⟩) (by simp) _).setCell (p := ⟨w.heap.size, 2, none⟩) (by simp) _)
  exact ⟨P, Q, G, s, A1, n1, c1, p, r, rfl, hD, hs, (hO.only hst (apart_of hO.high (by omega))).more (by omega), hn1, hr9, E.then (below_three (g := w.heap.size) w4 (.int .i64 P) (.int .i64 Q) (.int .i64 G)) (Nat.le_refl _)⟩
end Go.Proofs.Ythamimjejlicpaa
