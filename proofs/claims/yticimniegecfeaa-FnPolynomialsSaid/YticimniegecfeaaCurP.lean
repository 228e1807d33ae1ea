/- Drawn permutations. -/
import Derived.Test.YticimniegecfeaaProg
import Derived.Test.YticimniegecfeaaBase
import Derived.Test.YticimniegecfeaaMem
import Derived.Test.YticimniegecfeaaShuf
import Derived.Test.YticimniegecfeaaCur
namespace Go.Proofs.Yticimniegecfeaa
open Go.RowKit

theorem shufR_24 (n : Int) (p : List Int) : ((shufR n p).getD []).length ≤ 24 := by
  unfold shufR
  split
  · rename_i h
    rw [Bool.and_eq_true] at h
    have := inR_iff.1 h.1
    simp [shufL, shufGo_length, iota_length]; omega
  · simp
theorem apart_cur {B g : Nat} {fp : List Nat} (h : High B fp) (hg : g < B) : Apart fp [g] := fun b hb e => by
  have := h b hb
  simp only [List.mem_singleton] at e
  omega

set_option maxHeartbeats 1000000 in
theorem permutation_any {B : Nat} (g k m : Nat) (w : World) (h : CurS B w g k) (hk : k ≤ 1000000) (hm : m ≤ 26) (hB : B ≤ w.heap.size) :
    Calls Try.prog 245 #[.pointer (some ⟨g, 0, none⟩), .int .i64 m] w fun e w' => ∃ A n c p, e = .returned (.slice A n c) ∧ OwnI w' w.heap.size 3 A n c p ∧ n ≤ 24 ∧ Only [g] w w' ∧ CurS B w' g (k + 60) := by
  have hg := h.lt
  go_enter Try.func245, Try.ntmps245
  go_wp2_with fail
  go_loopw [5, 6] (fun s i wr => ∃ (j : Nat) (A : Option Addr) (c : Nat) (l : List Int), j ≤ m ∧ s = .slice A j c ∧ i = .int .i64 ((j : Int) + 1) ∧ OwnI wr w.heap.size 3 A j c l ∧ Only [g] w wr ∧ CurS B wr g (k + 2 * j)) (fun _ i _ => ((m : Int) - intOf i).toNat)
  case atStart => exact ⟨0, none, 0, [], Nat.zero_le _, rfl, rfl, OwnI.nil _ _ _, Only.refl _ _, h⟩
  case round =>
    clear h
    obtain ⟨j, A, c, l, hj, rfl, rfl, hO, hW, hC⟩ := hrel
    have hlen := hO.len
    have HLEN := Lib.hid hlen
    clear hlen
    have hwz := hW.size
    by_cases hlt : (j : Int) + 1 < m
    · go_wp2_with fail
      refine (pick_any g (k + 2 * j) 24 _ hC (by omega) (by omega)).mono ?_
      rintro e w1 ⟨r, rfl, _, hO1, hC1⟩
      replace hO := hO.only hO1 (apart_cur hO.high (by omega))
      replace hW := hW.thenOnly hO1
      have hsz := hW.size
      go_wp2_with (at_builtin; refine wpList_app1 intSl rfl _ _ rfl hO rfl rfl (by omega) hsz ?_; intro A2 c2 w2 hO2 hb2)
      go_roundw
      case rel => exact ⟨j + 1, A2, c2, _, by omega, rfl, by simp, hO2, hW.thenBelow hb2 (Nat.le_refl _), (hC1.below (hb2.mono hB)).more (by omega)⟩
      case measure => simp only [intOf]; omega
    · go_wp2_with fail
      refine (sShuffleCoins_any m A j c l _ hO.rd HLEN.out (by omega) hO.cap).mono ?_
      rintro e w1 ⟨A2, n2, c2, rfl, hO2, hE⟩
      go_wp2
      go_ret
      exact ⟨A2, n2, c2, _, rfl, hO2.more hwz, by rw [← hO2.len]; exact shufR_24 _ _, hW.thenOnly (hE.toOnly _), (hC.ext hE).more (by omega)⟩
set_option maxHeartbeats 2000000 in
theorem anyPermutation_any {B : Nat} (g k : Nat) (w : World) (h : CurS B w g k) (hk : k ≤ 100000) (hB : B ≤ w.heap.size) :
    Calls Try.prog 221 #[.pointer (some ⟨g, 0, none⟩)] w fun e w' => ∃ A n c p, e = .returned (.slice A n c) ∧ OwnI w' w.heap.size 3 A n c p ∧ n ≤ 24 ∧ Only [g] w w' ∧ CurS B w' g (k + 100) := by
  have hg := h.lt
  go_enter Try.func221, Try.ntmps221
  go_wp2_with fail
  refine (pick_any g k 7 _ h (by omega) (by omega)).mono ?_
  rintro e w1 ⟨N, rfl, hN, hO1, hC1⟩
  go_wp2_with fail
  refine (one_any g _ 12 _ hC1 (by omega) (by omega)).mono ?_
  rintro e w2 ⟨b, rfl, hO2, hC2⟩
  have hW := hO1.thenOnly hO2
  clear hO1 hO2 hC1
  cases b
  · have hC := hC2
    replace hN : N ≤ 26 := by omega
    go_wp2_with fail
    refine (permutation_any g _ N _ hC (by omega) hN (by have := hW.size; omega)).mono ?_
    rintro e w5 ⟨A, n, c, p, rfl, hP, hn, hO5, hC5⟩
    replace hP := hP.more hW.size
    replace hW := hW.thenOnly hO5
    by_cases hn0 : (0 : Int) < n
    · go_wp2_with fail
      refine (one_any g _ 8 _ hC5 (by omega) (by omega)).mono ?_
      rintro e w6 ⟨b2, rfl, hO6, hC6⟩
      replace hP := hP.only hO6 (apart_cur hP.high (by omega))
      replace hW := hW.thenOnly hO6
      cases b2
      · go_wp2
        go_ret
        exact ⟨A, n, c, p, rfl, hP, hn, hW, hC6.more (by omega)⟩
      · go_wp2_with fail
        refine (pick_any g _ n _ hC6 (by omega) (by omega)).mono ?_
        rintro e w7 ⟨r, rfl, hr, hO7, hC7⟩
        replace hP := hP.only hO7 (apart_cur hP.high (by omega))
        replace hW := hW.thenOnly hO7
        have hns : IntKind.i64.wrap ((n : Int) + 2) = (n : Int) + 2 := by rw [IntKind.wrap_i64]; omega
        go_wp2_with fail
        refine (pick_any g _ ((n : Int) + 2) _ hC7 (by omega) (by omega)).mono ?_
        rintro e w8 ⟨r2, rfl, hr2, hO8, hC8⟩
        replace hP := hP.only hO8 (apart_cur hP.high (by omega))
        replace hW := hW.thenOnly hO8
        have hrz : (r : Int) < n := by omega
        have hrl : r < p.length := by have := hP.len; omega
        obtain ⟨ga, rfl, hga, _, _⟩ := hP.addr (by omega)
        obtain ⟨hc1, hc2⟩ := hP.at0 r hrl
        have hr2b : (r2 : Int) ≤ 100 := by omega
        have hP2 := hP.set (j := r) ((r2 : Int) - 1)
        have hBl : Below w.heap.size w8 (w8.setCell ⟨ga, r, none⟩ (.int .i64 ((r2 : Int) - 1))) := (Below.refl _ _).setCell hga _
        go_wp2
        go_ret
        exact ⟨_, n, c, _, rfl, hP2, hn, hW.thenBelow hBl (Nat.le_refl _), (hC8.below (hBl.mono hB)).more (by omega)⟩
    · go_wp2
      go_ret
      exact ⟨A, n, c, p, rfl, hP, hn, hW, hC5.more (by omega)⟩
  · have hz := hW.size
    have hE := (Ext.refl w2).alloc (.cells #[.int .i64 12, .int .i64 13, .int .i64 24, .int .i64 25] 3)
    have hI : OwnI (w2.alloc (.cells #[.int .i64 12, .int .i64 13, .int .i64 24, .int .i64 25] 3)) w2.heap.size 3 (some ⟨w2.heap.size, 0, none⟩) 4 4 [12, 13, 24, 25] := ownI_lit [12, 13, 24, 25] rfl rfl (Nat.le_refl _) (by decide)
    go_wp2_with fail
    refine (among_any g _ _ 4 4 [12, 13, 24, 25] _ (hC2.ext hE) (by omega) hI.rd rfl (by omega) (by omega) (fun a e => by simp only [Option.some.injEq] at e; subst e; show w2.heap.size ≠ g; omega)).mono ?_
    rintro e w3 ⟨N1, rfl, hN1, hO3, hC⟩
    replace hW := (hW.thenOnly (hE.toOnly _)).thenOnly hO3
    clear hN hI hE hO3
    obtain ⟨N, rfl, hN⟩ : ∃ N : Nat, N1 = (N : Int) ∧ N ≤ 26 := ⟨N1.toNat, by simp at hN1; omega, by simp at hN1; omega⟩
    clear hN1
    go_wp2_with fail
    refine (permutation_any g _ N _ hC (by omega) hN (by have := hW.size; omega)).mono ?_
    rintro e w5 ⟨A, n, c, p, rfl, hP, hn, hO5, hC5⟩
    replace hP := hP.more hW.size
    replace hW := hW.thenOnly hO5
    by_cases hn0 : (0 : Int) < n
    · go_wp2_with fail
      refine (one_any g _ 8 _ hC5 (by omega) (by omega)).mono ?_
      rintro e w6 ⟨b2, rfl, hO6, hC6⟩
      replace hP := hP.only hO6 (apart_cur hP.high (by omega))
      replace hW := hW.thenOnly hO6
      cases b2
      · go_wp2
        go_ret
        exact ⟨A, n, c, p, rfl, hP, hn, hW, hC6.more (by omega)⟩
      · go_wp2_with fail
        refine (pick_any g _ n _ hC6 (by omega) (by omega)).mono ?_
        rintro e w7 ⟨r, rfl, hr, hO7, hC7⟩
        replace hP := hP.only hO7 (apart_cur hP.high (by omega))
        replace hW := hW.thenOnly hO7
        have hns : IntKind.i64.wrap ((n : Int) + 2) = (n : Int) + 2 := by rw [IntKind.wrap_i64]; omega
        go_wp2_with fail
        refine (pick_any g _ ((n : Int) + 2) _ hC7 (by omega) (by omega)).mono ?_
        rintro e w8 ⟨r2, rfl, hr2, hO8, hC8⟩
        replace hP := hP.only hO8 (apart_cur hP.high (by omega))
        replace hW := hW.thenOnly hO8
        have hrz : (r : Int) < n := by omega
        have hrl : r < p.length := by have := hP.len; omega
        obtain ⟨ga, rfl, hga, _, _⟩ := hP.addr (by omega)
        obtain ⟨hc1, hc2⟩ := hP.at0 r hrl
        have hr2b : (r2 : Int) ≤ 100 := by omega
        have hP2 := hP.set (j := r) ((r2 : Int) - 1)
        have hBl : Below w.heap.size w8 (w8.setCell ⟨ga, r, none⟩ (.int .i64 ((r2 : Int) - 1))) := (Below.refl _ _).setCell hga _
        go_wp2
        go_ret
        exact ⟨_, n, c, _, rfl, hP2, hn, hW.thenBelow hBl (Nat.le_refl _), (hC8.below (hBl.mono hB)).more (by omega)⟩
    · go_wp2
      go_ret
      exact ⟨A, n, c, p, rfl, hP, hn, hW, hC5.more (by omega)⟩

/-- A drawn slice of ints. -/
def DrawnI (w : World) (e : Ending) (w' : World) : Prop := ∃ A n c p, e = .returned (.slice A n c) ∧ OwnI w' w.heap.size 3 A n c p ∧ n ≤ 24 ∧ Ext w w'

set_option maxHeartbeats 1000000 in
theorem DrawIsPermutation_any (A : Option Addr) (n c : Nat) (l : List Int) (w : World) (hR : RdB w A l) (hl : l.length = n) (hn : n ≤ 9223372036854775807) (hx : ∀ x ∈ l, 0 ≤ x ∧ x ≤ 255) :
    Calls Try.prog 162 #[.slice A n c] w fun e w' => DrawnI w e w' := by
  have hC := new_cur (c := c) hR hl hn hx
  clear hl hx
  go_enter Try.func162, Try.ntmps162
  go_wp2_with fail
  refine (anyPermutation_any w.heap.size 0 _ hC (by omega) (by simp)).mono ?_
  rintro e w1 ⟨A1, n1, c1, p, rfl, hP, hn1, hO, _⟩
  go_wp2
  go_ret
  exact ⟨_, _, _, _, rfl, hP.more (by simp), hn1, ext_cur hO⟩
end Go.Proofs.Yticimniegecfeaa
