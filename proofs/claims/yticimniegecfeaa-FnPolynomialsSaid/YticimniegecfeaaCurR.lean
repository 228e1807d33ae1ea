/- Drawn residues, fields, orders of places. -/
import Derived.Test.YticimniegecfeaaProg
import Derived.Test.YticimniegecfeaaBase
import Derived.Test.YticimniegecfeaaMem
import Derived.Test.YticimniegecfeaaCur
namespace Go.Proofs.Yticimniegecfeaa
open Go.RowKit

theorem apart_of {B g : Nat} {fp : List Nat} (h : High B fp) (hg : g < B) : Apart fp [g] := fun b hb e => by
  have := h b hb
  simp only [List.mem_singleton] at e
  omega
theorem lLeast_le (x y : Int) (w : World) : Calls Try.prog 212 #[.int .i64 x, .int .i64 y] w fun e w' => ∃ r, e = .returned (.int .i64 r) ∧ r ≤ y ∧ r ≤ x ∧ w = w' := by
  by_cases h : x < y
  · go_enter Try.func212, Try.ntmps212
    go_wp2
    go_ret
    exact ⟨x, rfl, by omega, by omega, rfl⟩
  · go_enter Try.func212, Try.ntmps212
    go_wp2
    go_ret
    exact ⟨y, rfl, by omega, by omega, rfl⟩
theorem lMost_le (x y : Int) (w : World) : Calls Try.prog 211 #[.int .i64 x, .int .i64 y] w fun e w' => ∃ r, e = .returned (.int .i64 r) ∧ (r = x ∨ r = y) ∧ x ≤ r ∧ w = w' := by
  by_cases h : y < x
  · go_enter Try.func211, Try.ntmps211
    go_wp2
    go_ret
    exact ⟨x, rfl, .inl rfl, by omega, rfl⟩
  · go_enter Try.func211, Try.ntmps211
    go_wp2
    go_ret
    exact ⟨y, rfl, .inr rfl, by omega, rfl⟩

/-- One of a list that has just been laid. -/
theorem among_new {B : Nat} (g k n : Nat) (L : List Int) (cs : Array Value) (w : World) (h : CurS B w g k) (hk : k ≤ 100000000) (hcs : cs = (ints L).toArray) (hl : L.length = n) (hn : 0 < n) (hn2 : n ≤ 1000) (hB : B ≤ w.heap.size) :
    Calls Try.prog 110 #[.pointer (some ⟨g, 0, none⟩), .slice (some ⟨w.heap.size, 0, none⟩) n n] (w.alloc (.cells cs 3)) fun e w' => ∃ r : Int, e = .returned (.int .i64 r) ∧ r ∈ L ∧ Only [g] w w' ∧ CurS B w' g (k + 2) := by
  subst hcs
  have hg := h.lt
  have hE := (Ext.refl w).alloc (.cells (ints L).toArray 3)
  have hI : OwnI (w.alloc (.cells (ints L).toArray 3)) w.heap.size 3 (some ⟨w.heap.size, 0, none⟩) n n L := ownI_lit L hl rfl (Nat.le_refl _) (by unfold maxLen; omega)
  refine (among_any g k _ n n L _ (h.ext hE) hk hI.rd hl hn (by omega) (fun a e => by simp only [Option.some.injEq] at e; subst e; show w.heap.size ≠ g; omega)).mono ?_
  rintro e w1 ⟨r, he, hr, hO, hC⟩
  exact ⟨r, he, hr, (hE.toOnly _).thenOnly hO, hC⟩

set_option maxHeartbeats 1000000 in
theorem field_any {B : Nat} (g k : Nat) (w : World) (h : CurS B w g k) (hk : k ≤ 10000000) (hB : B ≤ w.heap.size) :
    Calls Try.prog 142 #[.pointer (some ⟨g, 0, none⟩)] w fun e w' => ∃ r : Int, e = .returned (.int .i64 r) ∧ 1 ≤ r ∧ r ≤ 2000000011 ∧ Only [g] w w' ∧ CurS B w' g (k + 2) := by
  go_enter Try.func142, Try.ntmps142
  go_wp2_with fail
  refine (among_new g k 15 [2, 3, 5, 7, 11, 11, 23, 101, 1019, 65537, 500000003, 1999999973, 9, 1, 2000000011] _ w h (by omega) rfl rfl (by omega) (by omega) hB).mono ?_
  rintro e w1 ⟨r, rfl, hr, hO, hC⟩
  go_wp2
  go_ret
  refine ⟨r, rfl, ?_, ?_, hO, hC⟩ <;> (simp only [List.mem_cons, List.not_mem_nil, or_false] at hr; omega)

set_option maxHeartbeats 2000000 in
theorem residues_any {B : Nat} (g k most : Nat) (m : Int) (w : World) (h : CurS B w g k) (hk : k ≤ 1000000) (hm : most ≤ 100) (hB : B ≤ w.heap.size) :
    Calls Try.prog 214 #[.pointer (some ⟨g, 0, none⟩), .int .i64 m, .int .i64 most] w fun e w' => ∃ A n c p, e = .returned (.slice A n c) ∧ OwnI w' w.heap.size 3 A n c p ∧ n ≤ most + 1 ∧ Only [g] w w' ∧ CurS B w' g (k + 300) := by
  have hg := h.lt
  go_enter Try.func214, Try.ntmps214
  go_wp2_with fail
  refine (pick_any g k ((most : Int) + 1) _ h (by omega) (by omega)).mono ?_
  rintro e w1 ⟨K, rfl, hK, hO1, hC1⟩
  have hz1 := hO1.size
  have hK2 : K ≤ most := by omega
  clear h hK
  go_wp2_with fail
  go_loopw [7, 8] (fun s i wr => ∃ (j x : Nat) (A : Option Addr) (c : Nat) (l : List Int), j + x ≤ most ∧ s = .slice A j c ∧ i = .int .i64 x ∧ OwnI wr w.heap.size 3 A j c l ∧ Only [g] w wr ∧ CurS B wr g (k + 2 + 2 * j)) (fun _ i _ => (intOf i).toNat)
  case atStart => exact ⟨0, K, none, 0, [], by omega, rfl, rfl, OwnI.nil _ _ _, hO1, hC1⟩
  case round =>
    clear hO1 hC1 hz1 hK2
    obtain ⟨j, x, A, c, l, hjx, rfl, rfl, hO, hW, hC⟩ := hrel
    have hwz := hW.size
    by_cases hlt : (0 : Int) < x
    · go_wp2_with fail
      refine (lLeast_le m 60000 _).mono ?_
      rintro e w2 ⟨r1, rfl, hr1, _, rfl⟩
      go_wp2_with fail
      refine (lMost_le 1 r1 _).mono ?_
      rintro e w2 ⟨r2, rfl, hr2, _, rfl⟩
      go_wp2_with fail
      refine (pick_any g _ r2 _ hC (by omega) (by omega)).mono ?_
      rintro e w3 ⟨r, rfl, _, hO1, hC1⟩
      replace hO := hO.only hO1 (apart_of hO.high (by omega))
      replace hW := hW.thenOnly hO1
      have hsz := hW.size
      go_wp2_with (at_builtin; refine wpList_app1 intSl rfl _ _ rfl hO rfl rfl (by omega) hsz ?_; intro A2 c2 w2 hO2 hb2)
      go_roundw
      case rel => exact ⟨j + 1, x - 1, A2, c2, _, by omega, rfl, by congr 1; omega, hO2, hW.thenBelow hb2 (Nat.le_refl _), (hC1.below (hb2.mono hB)).more (by omega)⟩
      case measure => simp only [intOf]; omega
    · go_wp2_with fail
      refine (one_any g _ 20 _ hC (by omega) (by omega)).mono ?_
      rintro e w2 ⟨b, rfl, hO1, hC1⟩
      replace hO := hO.only hO1 (apart_of hO.high (by omega))
      replace hW := hW.thenOnly hO1
      have hsz := hW.size
      cases b
      · go_wp2
        go_ret
        exact ⟨_, _, _, _, rfl, hO, by omega, hW, hC1.more (by omega)⟩
      · go_wp2_with fail
        refine (among_new g _ 2 [-1, m] _ w2 hC1 (by omega) rfl rfl (by omega) (by omega) (by omega)).mono ?_
        rintro e w3 ⟨r, rfl, _, hO3, hC3⟩
        replace hO := hO.only hO3 (apart_of hO.high (by omega))
        replace hW := hW.thenOnly hO3
        have hsz3 := hW.size
        go_wp2_with (at_builtin; refine wpList_app1 intSl rfl _ _ rfl hO rfl rfl (by omega) hsz3 ?_; intro A2 c2 w4 hO2 hb2)
        go_ret
        exact ⟨_, _, _, _, rfl, hO2, by omega, hW.thenBelow hb2 (Nat.le_refl _), (hC3.below (hb2.mono hB)).more (by omega)⟩
end Go.Proofs.Yticimniegecfeaa
