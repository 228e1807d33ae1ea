/- Drawn coins of a shuffle. -/
import Derived.Test.YticimniegecfeaaProg
import Derived.Test.YticimniegecfeaaCurR
import Derived.Deep.CutRange
import Derived.RegionTactic
import Derived.ChangeAlike
namespace Go.Proofs.Yticimniegecfeaa
open Go.RowKit

set_option maxHeartbeats 4000000 in
theorem DrawShuffleCoins_any (A : Option Addr) (n c : Nat) (l : List Int) (w : World) (hR : RdB w A l) (hl : l.length = n) (hn : n ≤ 9223372036854775807) (hx : ∀ x ∈ l, 0 ≤ x ∧ x ≤ 255) :
    Calls Try.prog 73 #[.slice A n c] w fun e w' => ∃ m A1 n1 c1 p, e = .returned (.tuple #[.int .i64 m, .slice A1 n1 c1]) ∧ OwnI w' w.heap.size 3 A1 n1 c1 p ∧ n1 ≤ 100 ∧ Ext w w' := by
  have hC := new_cur (c := c) hR hl hn hx
  clear hl hx hR
  go_enter Try.func73, Try.ntmps73
  go_wp2_with fail
  refine (pick_any w.heap.size 0 7 _ hC (by omega) (by omega)).mono ?_
  rintro e w1 ⟨x, rfl, hx, hO1, hC1⟩
  have hx7 : (x : Int) ≤ 6 := by omega
  clear hx hC
  go_upto_if 15 with (go_at_call 109; refine (one_any w.heap.size _ 10 _ hC1 (by omega) (by omega)).mono ?_; rintro e w2 ⟨b, rfl, hO2, hC2⟩)
  replace hO1 := hO1.thenOnly hO2
  have hz := hO1.size
  rw [World.size_alloc] at hz
  clear hO2 hC1
  go_cut [5] from 16 to 18 (fun s wx => ∃ N : Int, s = .int .i64 N ∧ -1 ≤ N ∧ N ≤ 25 ∧ Only [w.heap.size] (w.alloc (.cells #[.slice A n c, .int .i64 0, .int .u64 0] 126)) wx ∧ CurS (w.heap.size + 1) wx w.heap.size 20)
  case first =>
    cases b
    · go_wp2
      go_meet
      exact ⟨_, rfl, by omega, by omega, hO1, hC2.more (by omega)⟩
    · go_wp2_with fail
      refine (among_new w.heap.size _ 4 [0, 24, 25, -1] _ w2 hC2 (by omega) rfl rfl (by omega) (by omega) hz).mono ?_
      rintro e w3 ⟨N, rfl, hN, hO3, hC3⟩
      have hNb : -1 ≤ N ∧ N ≤ 25 := by simp at hN; omega
      clear hN
      go_wp2
      go_meet
      exact ⟨N, rfl, hNb.1, hNb.2, hO1.thenOnly hO3, hC3.more (by omega)⟩
  case rest =>
    clear hO1 hC2 hz
    obtain ⟨N, rfl, hN1, hN2, hO1, hC3⟩ := hcut
    have hz := hO1.size
    rw [World.size_alloc] at hz
    go_wp2_with fail
    go_loopw [6, 7] (fun s i wr => ∃ (j : Nat) (A1 : Option Addr) (c1 : Nat) (p : List Int), j ≤ 30 ∧ s = .slice A1 j c1 ∧ i = .int .i64 ((j : Int) + 1) ∧ OwnI wr (w.heap.size + 1) 3 A1 j c1 p ∧ Only [w.heap.size] (w.alloc (.cells #[.slice A n c, .int .i64 0, .int .u64 0] 126)) wr ∧ CurS (w.heap.size + 1) wr w.heap.size (20 + 4 * j)) (fun _ i _ => (N - intOf i).toNat)
    case atStart => exact ⟨0, none, 0, [], by omega, rfl, rfl, OwnI.nil _ _ _, hO1, hC3.more (by omega)⟩
    case round =>
      clear hO1 hC3 hz
      obtain ⟨j, A1, c1, p, hj, rfl, rfl, hP, hW, hC⟩ := hrel
      by_cases hlt : (j : Int) + 1 < N
      · go_wp2_with fail
        refine (pick_any w.heap.size _ 60000 _ hC (by omega) (by omega)).mono ?_
        rintro e w3 ⟨r1, rfl, hr1, hO3, hC3⟩
        replace hP := hP.only hO3 (apart_of hP.high (by omega))
        replace hW := hW.thenOnly hO3
        go_wp2_with fail
        refine (pick_any w.heap.size _ 60 _ hC3 (by omega) (by omega)).mono ?_
        rintro e w4 ⟨r2, rfl, hr2, hO4, hC4⟩
        replace hP := hP.only hO4 (apart_of hP.high (by omega))
        replace hW := hW.thenOnly hO4
        have hsz := hW.size
        rw [World.size_alloc] at hsz
        have hr1b : (r1 : Int) ≤ 60000 := by omega
        have hr2b : (r2 : Int) ≤ 60 := by omega
        clear hO3 hO4 hC hC3
        go_wp2_with (at_builtin; refine wpList_app1 intSl rfl _ _ rfl hP rfl rfl (by omega) hsz ?_; intro A2 c2 w5 hO2 hb2)
        go_roundw
        case rel => exact ⟨j + 1, A2, c2, _, by omega, rfl, by simp, hO2, hW.thenBelow hb2 (by simp), (hC4.below hb2).more (by omega)⟩
        case measure => simp only [intOf]; omega
      · go_wp2_with fail
        refine (one_any w.heap.size _ 12 _ hC (by omega) (by omega)).mono ?_
        rintro e w3 ⟨b2, rfl, hO3, hC3⟩
        replace hP := hP.only hO3 (apart_of hP.high (by omega))
        replace hW := hW.thenOnly hO3
        have hsz := hW.size
        rw [World.size_alloc] at hsz
        cases b2
        · go_wp2
          go_ret2
          exact ⟨N, _, _, _, _, rfl, hP.more (by omega), by omega, ext_cur hW⟩
        · go_wp2_with (at_builtin; refine wpList_app1 intSl rfl _ _ rfl hP rfl rfl (by omega) hsz ?_; intro A2 c2 w5 hO2 hb2)
          go_ret2
          exact ⟨N, _, _, _, _, rfl, hO2.more (by omega), by omega, ext_cur (hW.thenBelow hb2 (by simp))⟩
end Go.Proofs.Yticimniegecfeaa
