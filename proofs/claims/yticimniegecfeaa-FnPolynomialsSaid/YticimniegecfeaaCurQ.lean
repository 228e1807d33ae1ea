/- Drawn polynomials. -/
import Derived.Test.YticimniegecfeaaProg
import Derived.Test.YticimniegecfeaaCurR
import Derived.OwnWalk
namespace Go.Proofs.Yticimniegecfeaa
open Go.RowKit

set_option maxHeartbeats 2000000 in
theorem polynomial_any {B : Nat} (g k most : Nat) (q : Int) (w : World) (h : CurS B w g k) (hk : k ≤ 100000) (hm : most ≤ 20) (hB : B ≤ w.heap.size) :
    Calls Try.prog 143 #[.pointer (some ⟨g, 0, none⟩), .int .i64 q, .int .i64 most] w fun e w' => ∃ A n c p, e = .returned (.slice A n c) ∧ OwnI w' w.heap.size 3 A n c p ∧ n ≤ 30 ∧ Only [g] w w' ∧ CurS B w' g (k + 310) := by
  have hg := h.lt
  go_enter Try.func143, Try.ntmps143
  go_wp2_with fail
  refine (residues_any g k most q _ h (by omega) (by omega) hB).mono ?_
  rintro e w1 ⟨A, n, c, p, rfl, hP, hn, hO, hC⟩
  have hz := hO.size
  go_wp2_with fail
  refine (one_any g _ 40 _ hC (by omega) (by omega)).mono ?_
  rintro e w2 ⟨b, rfl, hO2, hC2⟩
  replace hP := hP.only hO2 (apart_of hP.high (by omega))
  replace hO := hO.thenOnly hO2
  have hz2 := hO.size
  cases b
  · go_wp2
    go_ret
    exact ⟨_, _, _, _, rfl, hP, by omega, hO, hC2.more (by omega)⟩
  · clear hP
    go_wp2_with fail
    refine (pick_any g _ 2 _ hC2 (by omega) (by omega)).mono ?_
    rintro e w3 ⟨r, rfl, hr, hO3, hC3⟩
    replace hO := hO.thenOnly hO3
    have hz3 := hO.size
    have hr2 : r ≤ 1 := by omega
    go_wp2_with (at_make; refine wpList_mkI intSl rfl _ _ rfl _ _ _ _ (24 + r) rfl rfl (by push_cast; rfl) (by push_cast; rfl) (by omega) w.heap.size hz3 ?_; intro w4 hP hE hz4)
    go_ret
    exact ⟨_, _, _, _, rfl, hP, by omega, hO.thenOnly (hE.toOnly _), (hC3.ext hE).more (by omega)⟩

/-- A drawn number and two drawn lists of ints. -/
def DrawnII (w : World) (e : Ending) (w' : World) : Prop := ∃ q A1 n1 c1 a A2 n2 c2 b, e = .returned (.tuple #[.int .i64 q, .slice A1 n1 c1, .slice A2 n2 c2]) ∧ OwnI w' w.heap.size 3 A1 n1 c1 a ∧ n1 ≤ 30 ∧ OwnI w' w.heap.size 3 A2 n2 c2 b ∧ n2 ≤ 30 ∧ Ext w w'

set_option maxHeartbeats 2000000 in
theorem DrawAddPolys_any (A : Option Addr) (n c : Nat) (l : List Int) (w : World) (hR : RdB w A l) (hl : l.length = n) (hn : n ≤ 9223372036854775807) (hx : ∀ x ∈ l, 0 ≤ x ∧ x ≤ 255) :
    Calls Try.prog 52 #[.slice A n c] w fun e w' => DrawnII w e w' := by
  have hC := new_cur (c := c) hR hl hn hx
  clear hl hx hR
  have hz : w.heap.size + 1 ≤ (w.alloc (.cells #[.slice A n c, .int .i64 0, .int .u64 0] 126)).heap.size := by simp
  go_enter Try.func52, Try.ntmps52
  go_wp2_with fail
  refine (field_any w.heap.size 0 _ hC (by omega) hz).mono ?_
  rintro e w1 ⟨q, rfl, _, _, hO, hC1⟩
  have hz1 := hO.size
  go_wp2_with fail
  refine (polynomial_any w.heap.size _ 6 q _ hC1 (by omega) (by omega) (by omega)).mono ?_
  rintro e w2 ⟨A1, n1, c1, a, rfl, hP, hn1, hO2, hC2⟩
  have hz2 := hO2.size
  have hap : Apart (fpI A1) [w.heap.size] := apart_of (B := w.heap.size + 1) (hP.high.mono (by omega)) (by omega)
  replace hO := hO.thenOnly hO2
  go_wp2_with fail
  refine (polynomial_any w.heap.size _ 6 q _ hC2 (by omega) (by omega) (by omega)).mono ?_
  rintro e w3 ⟨A2, n2, c2, b, rfl, hQ, hn2, hO3, _⟩
  go_wp2
  go_ret3
  exact ⟨q, A1, n1, c1, a, A2, n2, c2, b, rfl, (hP.only hO3 hap).more (by omega), hn1, hQ.more (by omega), hn2, ext_cur (hO.thenOnly hO3)⟩
end Go.Proofs.Yticimniegecfeaa
