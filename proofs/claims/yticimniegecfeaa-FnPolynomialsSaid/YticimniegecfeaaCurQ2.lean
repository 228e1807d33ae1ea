/- Drawn pairs of polynomials, for products. -/
import Derived.Test.YticimniegecfeaaProg
import Derived.Test.YticimniegecfeaaCurQ
import Derived.Test.YticimniegecfeaaPoly2
namespace Go.Proofs.Yticimniegecfeaa
open Go.RowKit

set_option maxRecDepth 100000 in
theorem mk_eq (w : World) (n : Nat) (hn : n ≤ 1000) (L : Int) (hL : L = n) : (Instr.makeSlice 22 (.int .i64 L) (.int .i64 L)).run Try.prog w = .ok (.slice (some ⟨w.heap.size, 0, none⟩) n n) (w.alloc (.cells (ints (List.replicate n 0)).toArray 3)) := by
  subst hL
  obtain ⟨i, h2, h3, h4, h5⟩ := intSl.hi
  rw [run_make w 22 3 i (.int .i64 0) intSl.ht h2 h3 .i64 .i64 (n : Int) (n : Int) (by omega) (Int.le_refl _) (by rw [h5]; omega) (by omega)]
  have e : madeCells (Value.int .i64 0).cells ((n : Int).toNat * i.size) = (ints (List.replicate n 0)).toArray := by
    apply Array.ext'
    rw [h4, Nat.mul_one, Int.toNat_natCast, ints_replicate]
    exact toList_madeCells_one _ n
  rw [e, Int.toNat_natCast]

theorem two_new (W : World) (base n m : Nat) (hb : base ≤ W.heap.size) (hn : n ≤ 100) (hm : m ≤ 100) :
    OwnI ((W.alloc (.cells (ints (List.replicate n 0)).toArray 3)).alloc (.cells (ints (List.replicate m 0)).toArray 3)) base 3 (some ⟨W.heap.size, 0, none⟩) n n (List.replicate n 0) ∧
    OwnI ((W.alloc (.cells (ints (List.replicate n 0)).toArray 3)).alloc (.cells (ints (List.replicate m 0)).toArray 3)) base 3 (some ⟨W.heap.size + 1, 0, none⟩) m m (List.replicate m 0) :=
  ⟨(ownI_lit _ List.length_replicate rfl hb (by unfold maxLen; omega)).ext ((Ext.refl _).alloc _), ownI_lit _ List.length_replicate (by simp) (by simp; omega) (by unfold maxLen; omega)⟩
theorem two_apart (W W' : World) (base n m g : Nat) (hO : Only [g] (W.alloc (.cells (ints (List.replicate n 0)).toArray 3)).drew W') (hg : g < W.heap.size) (hb : base ≤ W.heap.size) (hn : n ≤ 100) (hm : m ≤ 100) :
    OwnI (W'.alloc (.cells (ints (List.replicate m 0)).toArray 3)) base 3 (some ⟨W.heap.size, 0, none⟩) n n (List.replicate n 0) ∧
    OwnI (W'.alloc (.cells (ints (List.replicate m 0)).toArray 3)) base 3 (some ⟨W'.heap.size, 0, none⟩) m m (List.replicate m 0) := by
  have hz := hO.size
  have hz' : W.heap.size + 1 ≤ W'.heap.size := by simp at hz; exact hz
  have h1 : OwnI (W.alloc (.cells (ints (List.replicate n 0)).toArray 3)) base 3 (some ⟨W.heap.size, 0, none⟩) n n (List.replicate n 0) := ownI_lit _ List.length_replicate rfl hb (by unfold maxLen; omega)
  exact ⟨((h1.ext (Ext.refl _).drew).only hO (fun b hb e => by simp [fpI] at hb e; omega)).ext ((Ext.refl _).alloc _), ownI_lit _ List.length_replicate rfl (by omega) (by unfold maxLen; omega)⟩

set_option maxRecDepth 100000 in
set_option maxHeartbeats 4000000 in
theorem DrawMulPolys_any (A : Option Addr) (n c : Nat) (l : List Int) (w : World) (hR : RdB w A l) (hl : l.length = n) (hn : n ≤ 9223372036854775807) (hx : ∀ x ∈ l, 0 ≤ x ∧ x ≤ 255) :
    Calls Try.prog 49 #[.slice A n c] w fun e w' => DrawnII w e w' := by
  have hC := new_cur (c := c) hR hl hn hx
  clear hl hx hR
  have hz : w.heap.size + 1 ≤ (w.alloc (.cells #[.slice A n c, .int .i64 0, .int .u64 0] 126)).heap.size := by simp
  go_enter Try.func49, Try.ntmps49
  go_wp2_with fail
  refine (field_any w.heap.size 0 _ hC (by omega) hz).mono ?_
  rintro e w1 ⟨q, rfl, _, _, hO, hC1⟩
  have hz1 := hO.size
  go_wp2_with fail
  refine (one_any w.heap.size _ 12 _ hC1 (by omega) (by omega)).mono ?_
  rintro e w2 ⟨b, rfl, hO2, hC2⟩
  replace hO := hO.thenOnly hO2
  have hz2 := hO.size
  clear hO2 hC1 hz1
  cases b
  · go_wp2_with fail
    refine (polynomial_any w.heap.size _ 6 q _ hC2 (by omega) (by omega) (by omega)).mono ?_
    rintro e w3 ⟨A1, n1, c1, a, rfl, hP, hn1, hO2, hC3⟩
    have hz3 := hO2.size
    have hap : Apart (fpI A1) [w.heap.size] := apart_of (B := w.heap.size + 1) (hP.high.mono (by omega)) (by omega)
    replace hO := hO.thenOnly hO2
    go_wp2_with fail
    refine (polynomial_any w.heap.size _ 6 q _ hC3 (by omega) (by omega) (by omega)).mono ?_
    rintro e w4 ⟨A2, n2, c2, b, rfl, hQ, hn2, hO3, _⟩
    go_wp2
    go_ret3
    exact ⟨q, A1, n1, c1, a, A2, n2, c2, b, rfl, (hP.only hO3 hap).more (by omega), hn1, hQ.more (by omega), hn2, ext_cur (hO.thenOnly hO3)⟩
  · have hmk12 : ∀ w, (Instr.makeSlice 22 (.int .i64 12) (.int .i64 12)).run Try.prog w = .ok (.slice (some ⟨w.heap.size, 0, none⟩) 12 12) (w.alloc (.cells (ints (List.replicate 12 0)).toArray 3)) := fun w => mk_eq w 12 (by omega) 12 rfl
    have hgz : w.heap.size < w2.heap.size := by omega
    obtain ⟨Z, hZ⟩ : ∃ Z, (ints (List.replicate 12 0)).toArray = Z := ⟨_, rfl⟩
    rw [hZ] at hmk12
    have HZ := Lib.hid hZ
    clear hZ
    go_upto_region 4 with (fail)
    go_region_with (first
      | (go_at_call 111; refine (pick_any w.heap.size _ 2 _ (hC2.ext (Ext.refl w2).drew) (by omega) (by omega)).mono ?_; rintro e w3 ⟨r, rfl, hr, hO3, _⟩; have hr1 : (r : Int) ≤ 1 := (by omega); have hmkr := fun w => mk_eq w (13 + r) (by omega) (IntKind.i64.wrap (13 + (r : Int))) (by rw [IntKind.wrap_i64]; omega))
      | (go_at_call 111; refine (pick_any w.heap.size _ 2 _ (hC2.ext ((Ext.refl w2).alloc _).drew) (by omega) (by omega)).mono ?_; rintro e w3 ⟨r, rfl, hr, hO3, _⟩; have hr1 : (r : Int) ≤ 1 := (by omega); have hmkr := fun w => mk_eq w (13 + r) (by omega) (IntKind.i64.wrap (13 + (r : Int))) (by rw [IntKind.wrap_i64]; omega)))
    all_goals
      obtain rfl := HZ.out
      go_wp2
      go_ret3
      first
        | exact ⟨q, _, _, _, _, _, _, _, _, rfl, (two_new w3 w.heap.size 12 (13 + r) (by have := hO3.size; simp at this; omega) (by omega) (by omega)).1, by omega, (two_new w3 w.heap.size 12 (13 + r) (by have := hO3.size; simp at this; omega) (by omega) (by omega)).2, by omega, ext_cur (((hO.thenOnly ((Ext.refl w2).drew.toOnly _)).thenOnly hO3).thenOnly (Ext.toOnly (((Ext.refl w3).alloc _).alloc _) _))⟩
        | exact ⟨q, _, _, _, _, _, _, _, _, rfl, (two_new w3 w.heap.size (13 + r) 12 (by have := hO3.size; simp at this; omega) (by omega) (by omega)).2, by omega, (two_new w3 w.heap.size (13 + r) 12 (by have := hO3.size; simp at this; omega) (by omega) (by omega)).1, by omega, ext_cur (((hO.thenOnly ((Ext.refl w2).drew.toOnly _)).thenOnly hO3).thenOnly (Ext.toOnly (((Ext.refl w3).alloc _).alloc _) _))⟩
        | exact ⟨q, _, _, _, _, _, _, _, _, rfl, (two_apart w2 w3 w.heap.size 12 (13 + r) w.heap.size hO3 hgz (by omega) (by omega) (by omega)).1, by omega, (two_apart w2 w3 w.heap.size 12 (13 + r) w.heap.size hO3 hgz (by omega) (by omega) (by omega)).2, by omega, ext_cur (((hO.thenOnly (Ext.toOnly (((Ext.refl w2).alloc _).drew) _)).thenOnly hO3).thenOnly (((Ext.refl w3).alloc _).toOnly _))⟩
end Go.Proofs.Yticimniegecfeaa
