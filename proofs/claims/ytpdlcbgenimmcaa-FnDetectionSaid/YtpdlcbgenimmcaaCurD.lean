/- Draws of the numbers of sessions, of audits and of samples. -/
import Derived.Test.YtpdlcbgenimmcaaProg
import Derived.Test.YtpdlcbgenimmcaaCurHd
namespace Go.Proofs.Ytpdlcbgenimmcaa
open Go.RowKit

theorem undEnd {w wb wx : World} {o : Obj} (hb : wb = w.alloc o) (hO : Only [w.heap.size] wb wx) : Ext w wx := by
  subst hb
  exact ((Ext.refl w).alloc o).only hO (fun b hb => by simp at hb; omega)
set_option maxRecDepth 100000 in
set_option maxHeartbeats 4000000 in
theorem DrawUndetectedWays_any (A : Option Addr) (n c : Nat) (l : List Int) (w : World) (hR : RdB w A l) (hl : l.length = n) (hn : n ≤ 9223372036854775807) (hx : ∀ x ∈ l, 0 ≤ x ∧ x ≤ 255) :
    Calls Try.prog 139 #[.slice A n c] w fun e w' => ∃ x y z : Int, e = .returned (.tuple #[.int .i64 x, .int .i64 y, .int .i64 z]) ∧ Ext w w' := by
  have hC := new_cur (c := c) hR hl hn hx
  clear hl hx hR
  have hE1 := (Ext.refl w).alloc (.cells #[.slice A n c, .int .i64 0, .int .u64 0] 131)
  go_enter Try.func139, Try.ntmps139
  go_wp2_with fail
  refine (pick_any w.heap.size 0 13 _ hC (by omega) (by omega)).mono ?_
  rintro e w1 ⟨r, rfl, hr, hO1, hC1⟩
  have hz1 := hO1.size
  simp only [World.size_alloc] at hz1
  have hr25 : -1 ≤ (r : Int) ∧ (r : Int) ≤ 25 := by omega
  clear hr
  go_wp2_with fail
  refine (one_any w.heap.size _ 8 _ hC1 (by omega) (by omega)).mono ?_
  rintro e w2 ⟨b, rfl, hO2, hC2⟩
  have hz2 := hO2.size
  replace hO2 := hO1.thenOnly hO2
  clear hC hC1 hO1
  cases b
  · generalize (r : Int) = N at *
    go_wp2_with fail
    refine (lMost_le 0 N _).mono ?_
    rintro e w5 ⟨q, rfl, hq, hq0, rfl⟩
    have hq25 : 0 ≤ q ∧ q ≤ 25 := by omega
    clear hq
    go_wp2_with fail
    refine (pick_any w.heap.size _ (q + 2) _ hC2 (by omega) (by omega)).mono ?_
    rintro e w6 ⟨r1, rfl, hr1, hO6, hC6⟩
    have hr1b : (r1 : Int) ≤ 30 := by omega
    clear hr1
    replace hO2 := hO2.thenOnly hO6
    clear hO6
    go_wp2_with fail
    refine (pick_any w.heap.size _ 20 _ hC6 (by omega) (by omega)).mono ?_
    rintro e w7 ⟨r2, rfl, hr2, hO7, hC7⟩
    have hr2b : (r2 : Int) ≤ 30 := by omega
    clear hr2
    replace hO2 := hO2.thenOnly hO7
    clear hO7
    go_wp2_with fail
    refine (lMost_le 0 N _).mono ?_
    rintro e w8 ⟨q2, rfl, hq2, hq20, rfl⟩
    have hq225 : 0 ≤ q2 ∧ q2 ≤ 25 := by omega
    clear hq2
    go_wp2_with fail
    refine (pick_any w.heap.size _ (q2 + 2) _ hC7 (by omega) (by omega)).mono ?_
    rintro e w9 ⟨r3, rfl, hr3, hO9, hC9⟩
    have hr3b : (r3 : Int) ≤ 30 := by omega
    clear hr3
    replace hO2 := hO2.thenOnly hO9
    clear hO9
    go_wp2_with fail
    refine (pick_any w.heap.size _ 20 _ hC9 (by omega) (by omega)).mono ?_
    rintro e w10 ⟨r4, rfl, hr4, hO10, hC10⟩
    have hr4b : (r4 : Int) ≤ 30 := by omega
    clear hr4
    replace hO2 := hO2.thenOnly hO10
    clear hO10
    go_wp2
    go_ret3
    exact ⟨_, _, _, rfl, undEnd rfl hO2⟩
  · go_wp2_with fail
    refine (among_new w.heap.size _ 3 [24, 25, -1] _ w2 hC2 (by omega) rfl rfl (by omega) (by omega) (by omega)).mono ?_
    rintro e w3 ⟨N, rfl, hN, hO3, hC3⟩
    have hN25 : -1 ≤ N ∧ N ≤ 25 := by simp at hN; omega
    clear hN hr25
    have hz3 := hO3.size
    replace hO2 := hO2.thenOnly hO3
    clear hC2 hO3
    go_wp2_with fail
    refine (lMost_le 0 N _).mono ?_
    rintro e w5 ⟨q, rfl, hq, hq0, rfl⟩
    have hq25 : 0 ≤ q ∧ q ≤ 25 := by omega
    clear hq
    go_wp2_with fail
    refine (pick_any w.heap.size _ (q + 2) _ hC3 (by omega) (by omega)).mono ?_
    rintro e w6 ⟨r1, rfl, hr1, hO6, hC6⟩
    have hr1b : (r1 : Int) ≤ 30 := by omega
    clear hr1
    replace hO2 := hO2.thenOnly hO6
    clear hO6
    go_wp2_with fail
    refine (pick_any w.heap.size _ 20 _ hC6 (by omega) (by omega)).mono ?_
    rintro e w7 ⟨r2, rfl, hr2, hO7, hC7⟩
    have hr2b : (r2 : Int) ≤ 30 := by omega
    clear hr2
    replace hO2 := hO2.thenOnly hO7
    clear hO7
    go_wp2_with fail
    refine (lMost_le 0 N _).mono ?_
    rintro e w8 ⟨q2, rfl, hq2, hq20, rfl⟩
    have hq225 : 0 ≤ q2 ∧ q2 ≤ 25 := by omega
    clear hq2
    go_wp2_with fail
    refine (pick_any w.heap.size _ (q2 + 2) _ hC7 (by omega) (by omega)).mono ?_
    rintro e w9 ⟨r3, rfl, hr3, hO9, hC9⟩
    have hr3b : (r3 : Int) ≤ 30 := by omega
    clear hr3
    replace hO2 := hO2.thenOnly hO9
    clear hO9
    go_wp2_with fail
    refine (pick_any w.heap.size _ 20 _ hC9 (by omega) (by omega)).mono ?_
    rintro e w10 ⟨r4, rfl, hr4, hO10, hC10⟩
    have hr4b : (r4 : Int) ≤ 30 := by omega
    clear hr4
    replace hO2 := hO2.thenOnly hO10
    clear hO10
    go_wp2
    go_ret3
    exact ⟨_, _, _, rfl, undEnd rfl hO2⟩
theorem DrawDetectionChance_any (A : Option Addr) (n c : Nat) (l : List Int) (w : World) (hR : RdB w A l) (hl : l.length = n) (hn : n ≤ 9223372036854775807) (hx : ∀ x ∈ l, 0 ≤ x ∧ x ≤ 255) :
    Calls Try.prog 51 #[.slice A n c] w fun e w' => ∃ x y z : Int, e = .returned (.tuple #[.int .i64 x, .int .i64 y, .int .i64 z]) ∧ Ext w w' := by
  go_enter Try.func51, Try.ntmps51
  go_wp2_with fail
  refine (DrawUndetectedWays_any A n c l _ hR hl hn hx).mono ?_
  rintro e w1 ⟨x, y, z, rfl, hE⟩
  go_wp2
  go_ret3
  exact ⟨_, _, _, rfl, hE⟩
set_option maxRecDepth 100000 in
set_option maxHeartbeats 4000000 in
theorem DrawLeastAudits_any (A : Option Addr) (n c : Nat) (l : List Int) (w : World) (hR : RdB w A l) (hl : l.length = n) (hn : n ≤ 9223372036854775807) (hx : ∀ x ∈ l, 0 ≤ x ∧ x ≤ 255) :
    Calls Try.prog 55 #[.slice A n c] w fun e w' => ∃ x y z u : Int, e = .returned (.tuple #[.int .i64 x, .int .i64 y, .int .i64 z, .int .i64 u]) ∧ Ext w w' := by
  have hC := new_cur (c := c) hR hl hn hx
  have hE1 := (Ext.refl w).alloc (.cells #[.slice A n c, .int .i64 0, .int .u64 0] 131)
  go_enter Try.func55, Try.ntmps55
  go_wp2_with fail
  refine (DrawUndetectedWays_any A n c l _ (hR.ext hE1) hl hn hx).mono ?_
  rintro e w1 ⟨x, y, z, rfl, hE2⟩
  have hz1 := hE2.size
  simp only [World.size_alloc] at hz1
  replace hC := hC.ext hE2
  replace hE1 := hE1.trans hE2
  clear hl hx hR hE2
  go_wp2_with fail
  refine (among_new w.heap.size _ 8 [1, 2, 3, 10, 100, 1000, 0, 1001] _ w1 hC (by omega) rfl rfl (by omega) (by omega) (by omega)).mono ?_
  rintro e w3 ⟨N, rfl, hN, hO3, hC3⟩
  have hN25 : 0 ≤ N ∧ N ≤ 1001 := by simp at hN; omega
  clear hN hC
  replace hE1 := hE1.only hO3 (fun b hb => by simp at hb; omega)
  clear hO3
  go_wp2_with fail
  refine (pick_any w.heap.size _ (N + 2) _ hC3 (by omega) (by omega)).mono ?_
  rintro e w6 ⟨r1, rfl, hr1, hO6, hC6⟩
  have hr1b : (r1 : Int) ≤ 2000 := by omega
  clear hr1
  replace hE1 := hE1.only hO6 (fun b hb => by simp at hb; omega)
  clear hO6
  go_wp2_with fail
  refine (pick_any w.heap.size _ 16 _ hC6 (by omega) (by omega)).mono ?_
  rintro e w7 ⟨r2, rfl, hr2, hO7, hC7⟩
  have hr2b : (r2 : Int) ≤ 30 := by omega
  clear hr2
  replace hE1 := hE1.only hO7 (fun b hb => by simp at hb; omega)
  go_wp2
  refine bodyPost_ret (v := _) (by simp [results, Try.results55, go_sem]; rfl) rfl ?_
  exact ⟨_, _, _, _, rfl, hE1⟩
set_option maxRecDepth 100000 in
set_option maxHeartbeats 4000000 in
theorem DrawSampleAudits_any (A : Option Addr) (n c : Nat) (l : List Int) (w : World) (hR : RdB w A l) (hl : l.length = n) (hn : n ≤ 9223372036854775807) (hx : ∀ x ∈ l, 0 ≤ x ∧ x ≤ 255) :
    Calls Try.prog 58 #[.slice A n c] w fun e w' => ∃ x y z : Int, e = .returned (.tuple #[.int .i64 x, .int .i64 y, .int .i64 z]) ∧ Ext w w' := by
  have hC := new_cur (c := c) hR hl hn hx
  clear hl hx hR
  have hE1 := (Ext.refl w).alloc (.cells #[.slice A n c, .int .i64 0, .int .u64 0] 131)
  go_enter Try.func58, Try.ntmps58
  go_wp2_with fail
  refine (pick_any w.heap.size 0 10 _ hC (by omega) (by omega)).mono ?_
  rintro e w1 ⟨r, rfl, hr, hO1, hC1⟩
  have hz1 := hO1.size
  simp only [World.size_alloc] at hz1
  have hN25 : (r : Int) ≤ 10 := by omega
  clear hr
  go_wp2_with fail
  refine (one_any w.heap.size _ 10 _ hC1 (by omega) (by omega)).mono ?_
  rintro e w2 ⟨b, rfl, hO2, hC2⟩
  have hz2 := hO2.size
  replace hO2 := hO1.thenOnly hO2
  clear hC hC1 hO1
  cases b
  · go_wp2_with fail
    refine (digest_any w.heap.size _ _ hC2 (by omega) (by omega)).mono ?_
    rintro e w5 ⟨d, rfl, hO5, hC5⟩
    have hz5 := hO5.size
    replace hO2 := hO2.thenOnly hO5
    clear hO5
    go_wp2_with fail
    refine (pick_any w.heap.size _ (1 + (r : Int) + 2) _ hC5 (by omega) (by omega)).mono ?_
    rintro e w6 ⟨r1, rfl, hr1, hO6, hC6⟩
    have hr1b : (r1 : Int) ≤ 30 := by omega
    clear hr1
    replace hO2 := hO2.thenOnly hO6
    clear hO6
    go_wp2_with fail
    refine (pick_any w.heap.size _ 16 _ hC6 (by omega) (by omega)).mono ?_
    rintro e w7 ⟨r2, rfl, hr2, hO7, hC7⟩
    have hr2b : (r2 : Int) ≤ 30 := by omega
    clear hr2
    replace hO2 := hO2.thenOnly hO7
    clear hO7
    go_wp2
    go_ret3
    exact ⟨_, _, _, rfl, undEnd rfl hO2⟩
  · clear hN25
    go_wp2_with fail
    refine (among_new w.heap.size _ 3 [0, 24, 25] _ w2 hC2 (by omega) rfl rfl (by omega) (by omega) (by omega)).mono ?_
    rintro e w3 ⟨M, rfl, hM, hO3, hC3⟩
    have hM25 : 0 ≤ M ∧ M ≤ 25 := by simp at hM; omega
    clear hM
    have hz3 := hO3.size
    replace hO2 := hO2.thenOnly hO3
    clear hC2 hO3
    go_wp2_with fail
    refine (digest_any w.heap.size _ _ hC3 (by omega) (by omega)).mono ?_
    rintro e w5 ⟨d, rfl, hO5, hC5⟩
    have hz5 := hO5.size
    replace hO2 := hO2.thenOnly hO5
    clear hO5
    go_wp2_with fail
    refine (pick_any w.heap.size _ (M + 2) _ hC5 (by omega) (by omega)).mono ?_
    rintro e w6 ⟨r1, rfl, hr1, hO6, hC6⟩
    have hr1b : (r1 : Int) ≤ 30 := by omega
    clear hr1
    replace hO2 := hO2.thenOnly hO6
    clear hO6
    go_wp2_with fail
    refine (pick_any w.heap.size _ 16 _ hC6 (by omega) (by omega)).mono ?_
    rintro e w7 ⟨r2, rfl, hr2, hO7, hC7⟩
    have hr2b : (r2 : Int) ≤ 30 := by omega
    clear hr2
    replace hO2 := hO2.thenOnly hO7
    clear hO7
    go_wp2
    go_ret3
    exact ⟨_, _, _, rfl, undEnd rfl hO2⟩
end Go.Proofs.Ytpdlcbgenimmcaa
