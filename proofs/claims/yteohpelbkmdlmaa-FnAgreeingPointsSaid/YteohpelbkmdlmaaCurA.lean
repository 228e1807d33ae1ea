/- Drawn arguments of AgreeingPoints and TargetProduct. -/
import Derived.Test.YteohpelbkmdlmaaProg
import Derived.Test.YteohpelbkmdlmaaCurR
import Derived.OwnWalk
namespace Go.Proofs.Yteohpelbkmdlmaa
open Go.RowKit

theorem results5 {fn : Func} {t u v x y : Tmp} (h : fn.results = #[.tmp t, .tmp u, .tmp v, .tmp x, .tmp y]) (tmps : Array Value) (P : Program) (w : World) :
    (results fn tmps).run P w = .ok (.tuple #[tmps.getD t undef, tmps.getD u undef, tmps.getD v undef, tmps.getD x undef, tmps.getD y undef]) w := by
  simp [results, h, go_sem]

set_option maxHeartbeats 2000000 in
theorem DrawTargetProduct_any (A : Option Addr) (n c : Nat) (l : List Int) (w : World) (hR : RdB w A l) (hl : l.length = n) (hn : n ≤ 9223372036854775807) (hx : ∀ x ∈ l, 0 ≤ x ∧ x ≤ 255) :
    Calls Try.prog 67 #[.slice A n c] w fun e w' => ∃ q m x y z : Int, e = .returned (.tuple #[.int .i64 q, .int .i64 m, .int .i64 x, .int .i64 y, .int .i64 z]) ∧ Ext w w' := by
  have hC := new_cur (c := c) hR hl hn hx
  clear hl hx
  have hz : w.heap.size + 1 ≤ (w.alloc (.cells #[.slice A n c, .int .i64 0, .int .u64 0] 125)).heap.size := by simp
  go_enter Try.func67, Try.ntmps67
  go_wp2_with fail
  refine (field_any w.heap.size 0 _ hC (by omega) hz).mono ?_
  rintro e w1 ⟨q, rfl, _, _, hO, hC1⟩
  have hz1 := hO.size
  go_wp2_with fail
  refine (lLeast_le q 60000 _).mono ?_
  rintro e w2 ⟨r1, rfl, hr1, _, rfl⟩
  go_wp2_with fail
  refine (lMost_le 1 r1 _).mono ?_
  rintro e w2 ⟨r2, rfl, hr2, hr3, rfl⟩
  go_wp2_with fail
  refine (among_new w.heap.size _ 7 [1, 2, 3, 5, 12, 13, 0] _ w1 hC1 (by omega) rfl rfl (by omega) (by omega) (by omega)).mono ?_
  rintro e w3 ⟨m, rfl, _, hO3, hC3⟩
  replace hO := hO.thenOnly hO3
  go_wp2_with fail
  refine (pick_any w.heap.size _ r2 _ hC3 (by omega) (by omega)).mono ?_
  rintro e w4 ⟨x, rfl, _, hO4, hC4⟩
  replace hO := hO.thenOnly hO4
  go_wp2_with fail
  refine (pick_any w.heap.size _ r2 _ hC4 (by omega) (by omega)).mono ?_
  rintro e w5 ⟨y, rfl, _, hO5, hC5⟩
  replace hO := hO.thenOnly hO5
  go_wp2_with fail
  refine (pick_any w.heap.size _ r2 _ hC5 (by omega) (by omega)).mono ?_
  rintro e w6 ⟨z, rfl, hzb, hO6, hC6⟩
  replace hO := hO.thenOnly hO6
  go_wp2_with fail
  refine (pick_any w.heap.size _ 24 _ hC6 (by omega) (by omega)).mono ?_
  rintro e w7 ⟨u, rfl, hub, hO7, _⟩
  replace hO := hO.thenOnly hO7
  go_wp2
  refine bodyPost_ret (results5 rfl _ _ _) rfl ?_
  exact ⟨_, _, _, _, _, rfl, ext_cur hO⟩

set_option maxHeartbeats 2000000 in
theorem perm_any {B : Nat} (g k n : Nat) (w : World) (h : CurS B w g k) (hk : k ≤ 1000000) (hn : n ≤ 1000) (hB : B ≤ w.heap.size) :
    Calls Try.prog 149 #[.pointer (some ⟨g, 0, none⟩), .int .i64 n] w fun e w' => ∃ A c p, e = .returned (.slice A n c) ∧ OwnI w' w.heap.size 3 A n c p ∧ (∀ x ∈ p, 0 ≤ x ∧ x < (n : Int)) ∧ Only [g] w w' ∧ CurS B w' g (k + 2 * n) := by
  have hg := h.lt
  go_enter Try.func149, Try.ntmps149
  go_wp2_with fail
  go_loopw [5, 6] (fun s i wr => ∃ (j : Nat) (A : Option Addr) (c : Nat) (l : List Int), j ≤ n ∧ s = .slice A j c ∧ i = .int .i64 j ∧ OwnI wr w.heap.size 3 A j c l ∧ Hid (∀ x ∈ l, 0 ≤ x ∧ x < (n : Int)) ∧ Ext w wr) (fun _ i _ => n - (intOf i).toNat)
  case atStart => exact ⟨0, none, 0, [], Nat.zero_le _, rfl, rfl, OwnI.nil _ _ _, fun x hx => by simp at hx, Ext.refl _⟩
  case round =>
    obtain ⟨j, A, c, l, hj, rfl, rfl, hO, hH, hE⟩ := hrel
    have hsz := hE.size
    by_cases hlt : j < n
    · go_wp2_with (at_builtin; refine wpList_app1 intSl rfl _ _ rfl hO rfl rfl (by omega) hsz ?_; intro A2 c2 w2 hO2 hb2)
      go_roundw
      case rel =>
        refine ⟨j + 1, A2, c2, _, by omega, rfl, by go_num, hO2, fun x hx => ?_, hE.then hb2 (Nat.le_refl _)⟩
        rw [List.mem_append, List.mem_singleton] at hx
        rcases hx with hx | rfl
        · exact hH.out x hx
        · omega
      case measure => simp [intOf]; omega
    · obtain rfl : n = j := by omega
      have hC := h.ext hE
      have hW := hE.toOnly [g]
      clear h hE hj hlt
      go_wp2_with fail
      go_loopw [7] (fun i wr => ∃ (y : Nat) (l : List Int), y ≤ n ∧ i = .int .i64 ((n : Int) - 1 - y) ∧ OwnI wr w.heap.size 3 A n c l ∧ Hid (∀ x ∈ l, 0 ≤ x ∧ x < (n : Int)) ∧ Only [g] w wr ∧ CurS B wr g (k + 2 * y)) (fun i _ => (intOf i + 1).toNat)
      case atStart => exact ⟨0, l, Nat.zero_le _, by simp, hO, hH, hW, hC⟩
      case round =>
        clear hO hH hW hC
        obtain ⟨y, l, hy, rfl, hO, hH, hW, hC⟩ := hrel
        by_cases hlt : y + 1 < n
        · obtain ⟨X, hX⟩ : ∃ X : Nat, (n : Int) - 1 - y = X := ⟨n - 1 - y, by omega⟩
          have HX := Lib.hid hX
          have hXn : X + y + 1 = n := by omega
          rw [hX]
          clear hX
          go_wp2_with fail
          refine (pick_any g _ ((X : Int) + 1) _ hC (by omega) (by omega)).mono ?_
          rintro e w1 ⟨r, rfl, hr, hO1, hC1⟩
          replace hO := hO.only hO1 (apart_of hO.high (by omega))
          replace hW := hW.thenOnly hO1
          have hln := hO.len
          have hrX : r ≤ X := by omega
          obtain ⟨ga, rfl, hga, -, -⟩ := hO.addr (by omega)
          have hXl : X < l.length := by omega
          have hrl : r < l.length := by omega
          obtain ⟨c1, c2⟩ := hO.at0 X hXl
          obtain ⟨c3, c4⟩ := hO.at0 r hrl
          obtain ⟨lX, hlX⟩ : ∃ z, l[X] = z := ⟨_, rfl⟩
          obtain ⟨lr, hlr⟩ : ∃ z, l[r] = z := ⟨_, rfl⟩
          rw [hlX] at c1
          rw [hlr] at c3
          have hO2 := hO.set (j := X) lr
          obtain ⟨c5, c6⟩ := hO2.at0 r (by rw [List.length_set]; exact hrl)
          have hO3 := hO2.set (j := r) lX
          have hH2 : Hid (∀ x ∈ (l.set X lr).set r lX, 0 ≤ x ∧ x < (n : Int)) := by
            intro x hx
            rcases List.mem_or_eq_of_mem_set hx with hx | rfl
            · rcases List.mem_or_eq_of_mem_set hx with hx | rfl
              · exact hH.out x hx
              · exact hlr ▸ hH.out _ (List.getElem_mem _)
            · exact hlX ▸ hH.out _ (List.getElem_mem _)
          obtain ⟨lz, hlz⟩ : ∃ z, (l.set X lr)[r]'(by rw [List.length_set]; exact hrl) = z := ⟨_, rfl⟩
          rw [hlz] at c5
          clear hlX hlr hlz
          have hrz : (r : Int) < n := by omega
          have hXz : (X : Int) < n := by omega
          have hBl : Below w.heap.size w1 ((w1.setCell ⟨ga, X, none⟩ (.int .i64 lr)).setCell ⟨ga, r, none⟩ (.int .i64 lX)) := ((Below.refl _ _).setCell hga _).setCell hga _
          have e2 : (X : Int) - 1 = (n : Int) - 1 - ((y + 1 : Nat) : Int) := by omega
          have E2 := Lib.hid e2
          clear hln hXn e2
          go_wp2
          go_roundw
          case rel => exact ⟨y + 1, _, by omega, by rw [E2.out], hO3, hH2, hW.thenBelow hBl (Nat.le_refl _), (hC1.below (hBl.mono hB)).more (by omega)⟩
          case measure => simp only [intOf]; omega
        · go_wp2
          go_ret
          exact ⟨_, _, _, rfl, hO, hH.out, hW, hC.more (by omega)⟩

/-- among_new where the heap's size is spelled otherwise. -/
theorem among_newh {B : Nat} (g k n z : Nat) (L : List Int) (cs : Array Value) (w : World) (h : CurS B w g k) (hk : k ≤ 100000000) (hcs : cs = (ints L).toArray) (hl : L.length = n) (hn : 0 < n) (hn2 : n ≤ 1000) (hB : B ≤ w.heap.size) (hz : w.heap.size = z) :
    Calls Try.prog 133 #[.pointer (some ⟨g, 0, none⟩), .slice (some ⟨z, 0, none⟩) n n] (w.alloc (.cells cs 3)) fun e w' => ∃ r : Int, e = .returned (.int .i64 r) ∧ r ∈ L ∧ Only [g] w w' ∧ CurS B w' g (k + 2) := by
  subst hz
  exact among_new g k n L cs w h hk hcs hl hn hn2 hB

set_option maxHeartbeats 4000000 in
theorem DrawAgreeingPoints_any (A : Option Addr) (n c : Nat) (l : List Int) (w : World) (hR : RdB w A l) (hl : l.length = n) (hn : n ≤ 9223372036854775807) (hx : ∀ x ∈ l, 0 ≤ x ∧ x ≤ 255) :
    Calls Try.prog 64 #[.slice A n c] w fun e w' => ∃ q A1 n1 c1 a A2 n2 c2 b, e = .returned (.tuple #[.int .i64 q, .slice A1 n1 c1, .slice A2 n2 c2]) ∧ OwnI w' w.heap.size 3 A1 n1 c1 a ∧ n1 ≤ 24 ∧ OwnI w' w.heap.size 3 A2 n2 c2 b ∧ n2 ≤ 24 ∧ Ext w w' := by
  have hC := new_cur (c := c) hR hl hn hx
  clear hl hx hR
  have hz : w.heap.size + 1 ≤ (w.alloc (.cells #[.slice A n c, .int .i64 0, .int .u64 0] 125)).heap.size := by simp
  go_enter Try.func64, Try.ntmps64
  go_wp2_with fail
  refine (among_newh w.heap.size 0 11 (w.heap.size + 1) [2, 3, 5, 7, 11, 11, 23, 101, 1999, 2003, 9] _ _ hC (by omega) (by simp [ints]) rfl (by omega) (by omega) hz (by simp)).mono ?_
  rintro e w1 ⟨q, rfl, hq, hO, hC1⟩
  have hqb : q ≤ 2003 := by
    simp only [List.mem_cons, List.not_mem_nil, or_false] at hq; omega
  clear hq
  have hz1 := hO.size
  go_wp2_with fail
  refine (residues_any w.heap.size _ 5 q _ hC1 (by omega) (by omega) (by omega)).mono ?_
  rintro e w2 ⟨A1, n1, c1, a, rfl, hP, hn1, hO2, hC2⟩
  have hz2 := hO2.size
  have hap : Apart (fpI A1) [w.heap.size] := apart_of (B := w.heap.size + 1) (hP.high.mono (by omega)) (by omega)
  replace hP := hP.more (base' := w.heap.size + 1) (by omega)
  replace hO := hO.thenOnly hO2
  go_wp2_with fail
  refine (one_any w.heap.size _ 2 _ hC2 (by omega) (by omega)).mono ?_
  rintro e w3 ⟨bb, rfl, hO3, hC3⟩
  have hz3 := hO3.size
  replace hP := hP.only hO3 hap
  replace hO := hO.thenOnly hO3
  clear hO2 hO3
  cases bb
  · go_wp2_with fail
    refine (residues_any w.heap.size _ 5 q _ hC3 (by omega) (by omega) (by omega)).mono ?_
    rintro e w4 ⟨A2, n2, c2, b, rfl, hQ, hn2, hO4, _⟩
    go_wp2
    go_ret3
    exact ⟨q, A1, n1, c1, a, A2, n2, c2, b, rfl, (hP.only hO4 hap).more (by omega), by omega, hQ.more (by omega), by omega, ext_cur (hO.thenOnly hO4)⟩
  · go_wp2_with fail
    refine (perm_any w.heap.size _ n1 _ hC3 (by omega) (by omega) (by omega)).mono ?_
    rintro e w4 ⟨Ap, cp, p, rfl, hQ, hrp, hO4, hC4⟩
    have hz4 := hO4.size
    replace hP := hP.only hO4 hap
    replace hO := hO.thenOnly hO4
    have hpl := hQ.len
    have hal := hP.len
    have HPL := Lib.hid hpl
    have HAL := Lib.hid hal
    have HRP := Lib.hid hrp
    clear hO4 hpl hal hrp
    go_wp2_with fail
    go_loopw [8, 27] (fun s i wr => ∃ (j : Nat) (Ab : Option Addr) (cb : Nat) (lb : List Int), j ≤ n1 ∧ s = .slice Ab j cb ∧ i = .int .i64 j ∧ OwnI wr w4.heap.size 3 Ab j cb lb ∧ Ext w4 wr) (fun _ i _ => n1 - (intOf i).toNat)
    case atStart => exact ⟨0, none, 0, [], Nat.zero_le _, rfl, rfl, OwnI.nil _ _ _, Ext.refl _⟩
    case round =>
      obtain ⟨j, Ab, cb, lb, hj, rfl, rfl, hB, hE⟩ := hrel
      have hsz := hE.size
      by_cases hlt : j < n1
      · obtain ⟨ad, rfl, k1⟩ := (hQ.rd.ext hE).at_ (k := j) (by rw [HPL.out]; exact hlt)
        obtain ⟨r1, r2⟩ := HRP.out (p[j]'(by rw [HPL.out]; exact hlt)) (List.getElem_mem _)
        obtain ⟨K, hK⟩ := Int.eq_ofNat_of_zero_le r1
        rw [hK] at k1 r2
        obtain ⟨ad2, rfl, k2⟩ := (hP.rd.ext hE).at_ (k := K) (by rw [HAL.out]; omega)
        obtain ⟨v, hv⟩ : ∃ v, a[K]'(by rw [HAL.out]; omega) = v := ⟨_, rfl⟩
        rw [hv] at k2
        clear hv hK r1
        go_wp2_with (at_builtin; refine wpList_app1 intSl rfl _ _ rfl hB rfl rfl (by omega) hsz ?_; intro A2 c2 w5 hB2 hb2)
        go_roundw
        case rel => exact ⟨j + 1, A2, c2, _, by omega, rfl, by go_num, hB2, hE.then hb2 (Nat.le_refl _)⟩
        case measure => simp [intOf]; omega
      · obtain rfl : n1 = j := by omega
        have hapAB : Apart (fpI A1) (fpI Ab) := Apart.of_low hP.low hB.high
        replace hP := hP.ext hE
        replace hC4 := hC4.ext hE
        replace hO := hO.thenOnly (hE.toOnly _)
        have hapb : Apart (fpI Ab) [w.heap.size] := apart_of (B := w.heap.size + 1) (hB.high.mono (by omega)) (by omega)
        replace hB := hB.more (base' := w.heap.size + 1) (by omega)
        clear hQ HPL HAL HRP
        by_cases hn0 : (0 : Int) < n1
        · go_wp2_with fail
          refine (one_any w.heap.size _ 2 _ hC4 (by omega) (by omega)).mono ?_
          rintro e w6 ⟨b2, rfl, hO6, hC6⟩
          replace hP := hP.only hO6 hap
          replace hB := hB.only hO6 hapb
          replace hO := hO.thenOnly hO6
          cases b2
          · go_wp2
            go_ret3
            exact ⟨q, A1, n1, c1, a, Ab, n1, cb, lb, rfl, hP.more (by omega), by omega, hB.more (by omega), by omega, ext_cur hO⟩
          · go_wp2_with fail
            refine (pick_any w.heap.size _ q _ hC6 (by omega) (by omega)).mono ?_
            rintro e w7 ⟨r, rfl, _, hO7, hC7⟩
            replace hP := hP.only hO7 hap
            replace hB := hB.only hO7 hapb
            replace hO := hO.thenOnly hO7
            have hbl := hB.len
            obtain ⟨ga, rfl, hga, -, -⟩ := hB.addr (by omega)
            obtain ⟨f1, f2⟩ := hB.at0 0 (by omega)
            obtain ⟨v, hv⟩ : ∃ v, lb[0]'(by omega) = v := ⟨_, rfl⟩
            rw [hv] at f1
            have hB2 := hB.set (j := 0) (r : Int)
            have hBl : Below (w.heap.size + 1) w7 (w7.setCell ⟨ga, 0, none⟩ (.int .i64 r)) := (Below.refl _ _).setCell hga _
            clear hv hbl
            go_wp2
            go_ret3
            exact ⟨q, A1, n1, c1, a, _, n1, cb, _, rfl, (hP.only ((Only.refl (fpI (some ⟨ga, 0, none⟩)) w7).setCell (by simp [fpI]) _) hapAB).more (by omega), by omega, hB2.more (by omega), by omega, ext_cur (hO.thenBelow hBl (by simp))⟩
        · go_wp2
          go_ret3
          exact ⟨q, A1, n1, c1, a, Ab, n1, cb, rfl, hP.more (by omega), by omega, ⟨lb, hB.more (by omega)⟩, by omega, ext_cur hO⟩
end Go.Proofs.Yteohpelbkmdlmaa
