/- Contracts for the functions of a group: elements, exponents, powers, products. -/
import Derived.Test.YtnhdohjlbchniaaGreatProg
import Derived.Test.YtnhdohjlbchniaaGreatGrpP
import Derived.Test.YtnhdohjlbchniaaGreatFun2
import Derived.Deep.RegionHeld3
namespace Go.Proofs.YtnhdohjlbchniaaGreat
open Go.RowKit

/-- What a group's numbers keep to where they are reckoned with. -/
structure GrpB (p q : Int) : Prop where
  p1 : 1 ≤ p
  p2 : p ≤ 2000000000
  q1 : 1 ≤ q
  q2 : q ≤ 4000000000
theorem GrpIn.bd {p q g : Int} (h : GrpIn p q g) : GrpB p q := ⟨by have := h.p3; omega, h.p9, by have := h.q2; omega, by have := h.qp; have := h.p9; omega⟩

set_option maxHeartbeats 1000000 in
theorem has_any (p q g x : Int) (w : World) (h : GrpB p q) :
    Calls Tryz.prog 52 #[.agg #[.int .i64 p, .int .i64 q, .int .i64 g], .int .i64 x] w fun e w' => e = .returned (.bool (elB p q x)) ∧ Ext w w' := by
  obtain ⟨p1, p2, q1, q2⟩ := h
  have hE := (Ext.refl w).alloc (.cells #[.int .i64 p, .int .i64 q, .int .i64 g] 33)
  cases h1 : inR x 1 (p - 1)
  · go_enter Tryz.func52, Tryz.ntmps52
    go_wp2_with fail
    refine (within_any _ _ _ _).mono ?_
    rintro e w1 ⟨he, rfl⟩
    rw [h1] at he; subst he
    go_wp2
    go_ret
    exact ⟨ret_bool (by simp [elB, h1]), hE⟩
  · have hb := inR_iff.1 h1
    go_enter Tryz.func52, Tryz.ntmps52
    go_wp2_with fail
    refine (within_any _ _ _ _).mono ?_
    rintro e w1 ⟨he, rfl⟩
    rw [h1] at he; subst he
    go_wp2_with fail
    refine (power_any x q p _ (by omega) (by omega) (by omega) (by omega) (by omega) (by omega)).mono ?_
    rintro e w1 ⟨rfl, rfl⟩
    go_wp2
    go_ret
    exact ⟨ret_bool (by rw [elB, h1, Bool.true_and, Bool.eq_iff_iff]; simp), hE⟩

theorem all_take {l : List Int} {f : Int → Bool} {j : Nat} (hj : j < l.length) (h : (l.take j).all f = true) (hx : f l[j] = true) : (l.take (j + 1)).all f = true := by
  rw [List.take_succ_eq_append_getElem hj, List.all_append, h]
  simp [hx]
theorem all_no {l : List Int} {f : Int → Bool} {j : Nat} (hj : j < l.length) (hx : f l[j] = false) : l.all f = false := by
  rw [List.all_eq_false]
  exact ⟨l[j], List.getElem_mem hj, by simp [hx]⟩
set_option maxHeartbeats 1000000 in
theorem gIs_any (p q g : Int) (A : Option Addr) (n c : Nat) (l : List Int) (w : World) (h : GrpB p q) (ha : RdI w A l) (hl : l.length = n) (hn : n ≤ maxLen) :
    Calls Tryz.prog 75 #[.agg #[.int .i64 p, .int .i64 q, .int .i64 g], .slice A n c] w fun e w' => e = .returned (.bool (l.all (elB p q))) ∧ Ext w w' := by
  obtain ⟨p1, p2, q1, q2⟩ := h
  unfold maxLen at hn
  have hE := (Ext.refl w).alloc (.cells #[.int .i64 p, .int .i64 q, .int .i64 g] 33)
  have C := (Blk.new w 33 #[.int .i64 p, .int .i64 q, .int .i64 g]).cells
  subst hl
  go_enter Tryz.func75, Tryz.ntmps75
  go_wp2
  go_loop [9] (fun i => ∃ j : Nat, j ≤ l.length ∧ i = .int .i64 j ∧ Hid ((l.take j).all (elB p q) = true)) (fun i => l.length - (intOf i).toNat)
  case atStart => exact ⟨0, Nat.zero_le _, rfl, rfl⟩
  case round =>
    obtain ⟨j, hj, rfl, HI⟩ := hrel
    by_cases hlt : j < l.length
    · obtain ⟨ad, rfl, hc⟩ := (ha.ext hE).at_ hlt
      have HT := Lib.hid (fun h => all_take (f := elB p q) hlt HI.out h)
      have HN := Lib.hid (fun h => all_no (f := elB p q) hlt h)
      generalize l[j] = x at *
      cases h1 : inR x 1 (p - 1)
      · have hx : elB p q x = false := by simp [elB, h1]
        have HX := Lib.hid hx
        clear hx
        go_wp2_with fail
        refine (l1In_any _ _ _ _).mono ?_
        rintro e w1 ⟨he, rfl⟩
        rw [h1] at he; subst he
        go_wp2
        go_ret
        exact ⟨ret_bool (HN.out HX.out).symm, hE⟩
      · have hb := inR_iff.1 h1
        by_cases h2 : powM x q p = 1
        · have hx : elB p q x = true := by simp [elB, h1, h2]
          have h3 : (powM x q p != 1) = false := by simp [h2]
          have HX := Lib.hid hx
          clear hx h2
          go_wp2_with fail
          refine (l1In_any _ _ _ _).mono ?_
          rintro e w1 ⟨he, rfl⟩
          rw [h1] at he; subst he
          go_wp2_with fail
          refine (nPower_any x q p _ (by omega) (by omega) (by omega) (by omega) (by omega) (by omega)).mono ?_
          rintro e w1 ⟨rfl, rfl⟩
          go_wp2
          go_round
          case rel => exact ⟨j + 1, by omega, by go_num, HT.out HX.out⟩
          case measure => simp [intOf]; omega
        · have hx : elB p q x = false := by simp [elB, h1, h2]
          have h3 : (powM x q p != 1) = true := by simp [h2]
          have HX := Lib.hid hx
          clear hx h2
          go_wp2_with fail
          refine (l1In_any _ _ _ _).mono ?_
          rintro e w1 ⟨he, rfl⟩
          rw [h1] at he; subst he
          go_wp2_with fail
          refine (nPower_any x q p _ (by omega) (by omega) (by omega) (by omega) (by omega) (by omega)).mono ?_
          rintro e w1 ⟨rfl, rfl⟩
          go_wp2
          go_ret
          exact ⟨ret_bool (HN.out HX.out).symm, hE⟩
    · obtain rfl : j = l.length := by omega
      have h9 := HI.out
      rw [List.take_length] at h9
      have H9 := Lib.hid h9
      clear h9
      go_wp2
      go_ret
      exact ⟨ret_bool H9.out.symm, hE⟩

theorem isExp_any (p q g x : Int) (w : World) (h : GrpB p q) :
    Calls Tryz.prog 57 #[.agg #[.int .i64 p, .int .i64 q, .int .i64 g], .int .i64 x] w fun e w' => e = .returned (.bool (inR x 0 (q - 1))) ∧ Ext w w' := by
  obtain ⟨p1, p2, q1, q2⟩ := h
  have hE := (Ext.refl w).alloc (.cells #[.int .i64 p, .int .i64 q, .int .i64 g] 33)
  go_enter Tryz.func57, Tryz.ntmps57
  go_wp2_with fail
  refine (within_any _ _ _ _).mono ?_
  rintro e w1 ⟨rfl, rfl⟩
  go_wp2
  go_ret
  exact ⟨rfl, hE⟩

theorem areExps_any (p q g : Int) (A : Option Addr) (n c : Nat) (l : List Int) (w : World) (h : GrpB p q) (ha : RdI w A l) (hl : l.length = n) (hn : n ≤ maxLen) :
    Calls Tryz.prog 25 #[.agg #[.int .i64 p, .int .i64 q, .int .i64 g], .slice A n c] w fun e w' => e = .returned (.bool (allR l 0 (q - 1))) ∧ Ext w w' := by
  have hE := (Ext.refl w).alloc (.cells #[.int .i64 p, .int .i64 q, .int .i64 g] 33)
  have hf : AnswersP 57 (.agg #[.int .i64 p, .int .i64 q, .int .i64 g]) (w.alloc (.cells #[.int .i64 p, .int .i64 q, .int .i64 g] 33)) l (fun x => inR x 0 (q - 1)) := ⟨fun args w => by kernel_rfl, fun x _ w' _ => isExp_any p q g x w' h⟩
  go_enter Tryz.func25, Tryz.ntmps25
  go_wp2_with fail
  refine (areAllP_any _ _ _ l _ _ _ (fun x => inR x 0 (q - 1)) (ha.ext hE) hl hn hf).mono ?_
  rintro e w1 ⟨rfl, hb⟩
  go_wp2
  go_ret
  exact ⟨rfl, hE.trans hb⟩

theorem exp_any (p q g x : Int) (w : World) (h : GrpB p q) (hx : -9000000000000000000 ≤ x) (hx2 : x ≤ 9000000000000000000) :
    Calls Tryz.prog 66 #[.agg #[.int .i64 p, .int .i64 q, .int .i64 g], .int .i64 x] w fun e w' => e = .returned (.int .i64 (x % q)) ∧ Ext w w' := by
  obtain ⟨p1, p2, q1, q2⟩ := h
  have hE := (Ext.refl w).alloc (.cells #[.int .i64 p, .int .i64 q, .int .i64 g] 33)
  go_enter Tryz.func66, Tryz.ntmps66
  go_wp2_with fail
  refine (mod_any x q _ (by omega) (by omega) (by omega) (by omega)).mono ?_
  rintro e w1 ⟨rfl, rfl⟩
  go_wp2
  go_ret
  exact ⟨rfl, hE⟩
theorem gExps_any (p q g : Int) (A : Option Addr) (n c : Nat) (l : List Int) (w : World) (h : GrpB p q) (ha : RdI w A l) (hl : l.length = n) (hn : n ≤ maxLen) :
    Calls Tryz.prog 19 #[.agg #[.int .i64 p, .int .i64 q, .int .i64 g], .slice A n c] w fun e w' => e = .returned (.bool (allR l 0 (q - 1))) ∧ Ext w w' := by
  obtain ⟨p1, p2, q1, q2⟩ := h
  have hE := (Ext.refl w).alloc (.cells #[.int .i64 p, .int .i64 q, .int .i64 g] 33)
  go_enter Tryz.func19, Tryz.ntmps19
  go_wp2_with fail
  refine (l1All_any _ _ _ l _ _ _ (ha.ext hE) hl hn).mono ?_
  rintro e w1 ⟨rfl, rfl⟩
  go_wp2
  go_ret
  exact ⟨rfl, hE⟩

theorem emod_bd {x q : Int} (h : 1 ≤ q) : 0 ≤ x % q ∧ x % q < q := ⟨Int.emod_nonneg _ (by omega), Int.emod_lt_of_pos _ (by omega)⟩
set_option maxHeartbeats 1000000 in
theorem pow_any (p q g x e : Int) (w : World) (h : GrpB p q) (hx : 0 ≤ x) (hx2 : x ≤ 3000000000) (he : -9000000000000000000 ≤ e) (he2 : e ≤ 9000000000000000000) :
    Calls Tryz.prog 68 #[.agg #[.int .i64 p, .int .i64 q, .int .i64 g], .int .i64 x, .int .i64 e] w fun e' w' => e' = .returned (.int .i64 (gpw p q x e)) ∧ Ext w w' := by
  obtain ⟨p1, p2, q1, q2⟩ := h
  have hE := (Ext.refl w).alloc (.cells #[.int .i64 p, .int .i64 q, .int .i64 g] 33)
  have C := (Blk.new w 33 #[.int .i64 p, .int .i64 q, .int .i64 g]).cells
  have hm := emod_bd (x := e) q1
  go_enter Tryz.func68, Tryz.ntmps68
  go_wp2
  go_region_held3 (fun w' => Ext w w' ∧ w'.cell? ⟨w.heap.size, 0, none⟩ = some (.int .i64 p) ∧ w'.cell? ⟨w.heap.size, 1, none⟩ = some (.int .i64 q)) (exact ⟨hE.drew, C 0, C 1⟩)
    (first | (go_at_call 98; refine (mod_any e q _ (by omega) (by omega) (by omega) (by omega)).mono ?_; rintro e1 w1 ⟨rfl, rfl⟩) | (go_at_call 88; refine (power_any x (e % q) p _ (by omega) (by omega) (by omega) (by omega) (by omega) (by omega)).mono ?_; rintro e1 w2 ⟨rfl, rfl⟩))
  go_wp2
  go_ret
  exact ⟨rfl, hE.drew⟩
set_option maxHeartbeats 1000000 in
theorem gExp_any (p q g x e : Int) (w : World) (h : GrpB p q) (hx : 0 ≤ x) (hx2 : x ≤ 3000000000) (he : -9000000000000000000 ≤ e) (he2 : e ≤ 9000000000000000000) :
    Calls Tryz.prog 45 #[.agg #[.int .i64 p, .int .i64 q, .int .i64 g], .int .i64 x, .int .i64 e] w fun e' w' => e' = .returned (.int .i64 (gpw p q x e)) ∧ Ext w w' := by
  obtain ⟨p1, p2, q1, q2⟩ := h
  have hE := (Ext.refl w).alloc (.cells #[.int .i64 p, .int .i64 q, .int .i64 g] 33)
  have C := (Blk.new w 33 #[.int .i64 p, .int .i64 q, .int .i64 g]).cells
  have hm := emod_bd (x := e) q1
  go_enter Tryz.func45, Tryz.ntmps45
  go_wp2
  go_region_held3 (fun w' => Ext w w' ∧ w'.cell? ⟨w.heap.size, 0, none⟩ = some (.int .i64 p) ∧ w'.cell? ⟨w.heap.size, 1, none⟩ = some (.int .i64 q)) (exact ⟨hE.drew, C 0, C 1⟩)
    (first | (go_at_call 84; refine (nMod_any e q _ (by omega) (by omega) (by omega) (by omega)).mono ?_; rintro e1 w1 ⟨rfl, rfl⟩) | (go_at_call 77; refine (nPower_any x (e % q) p _ (by omega) (by omega) (by omega) (by omega) (by omega) (by omega)).mono ?_; rintro e1 w2 ⟨rfl, rfl⟩))
  go_wp2
  go_ret
  exact ⟨rfl, hE.drew⟩
theorem gmul_take {p : Int} {l : List Int} {j : Nat} (hj : j < l.length) : gmul p (l.take (j + 1)) = gmul p (l.take j) * l[j] % p := by
  unfold gmul
  rw [List.take_succ_eq_append_getElem hj, List.foldl_append]; rfl

set_option maxHeartbeats 1000000 in
theorem mul_any (p q g : Int) (A : Option Addr) (n c : Nat) (l : List Int) (w : World) (h : GrpB p q) (ha : RdI w A l) (hl : l.length = n) (hn : n ≤ maxLen) (hr : ∀ x ∈ l, 0 ≤ x ∧ x ≤ 3000000000) :
    Calls Tryz.prog 69 #[.agg #[.int .i64 p, .int .i64 q, .int .i64 g], .slice A n c] w fun e w' => e = .returned (.int .i64 (gmul p l)) ∧ Ext w w' := by
  obtain ⟨p1, p2, q1, q2⟩ := h
  unfold maxLen at hn
  have hE := (Ext.refl w).alloc (.cells #[.int .i64 p, .int .i64 q, .int .i64 g] 33)
  have C := (Blk.new w 33 #[.int .i64 p, .int .i64 q, .int .i64 g]).cells
  have HR := Lib.hid hr
  have hp0 : (p == 0) = false := by simp; omega
  clear hr
  subst hl
  go_enter Tryz.func69, Tryz.ntmps69
  go_wp2
  go_loop [5, 10] (fun o i => ∃ j : Nat, j ≤ l.length ∧ i = .int .i64 j ∧ o = .int .i64 (gmul p (l.take j)) ∧ 0 ≤ gmul p (l.take j) ∧ gmul p (l.take j) ≤ 2000000000) (fun _ i => l.length - (intOf i).toNat)
  case atStart => exact ⟨0, Nat.zero_le _, rfl, rfl, by simp [gmul], by simp [gmul]⟩
  case round =>
    obtain ⟨j, hj, rfl, rfl, h0, h1⟩ := hrel
    by_cases hlt : j < l.length
    · obtain ⟨ad, rfl, hc⟩ := (ha.ext hE).at_ hlt
      obtain ⟨x0, x1⟩ := HR.out l[j] (List.getElem_mem hlt)
      have HS := Lib.hid (gmul_take (p := p) hlt)
      generalize gmul p (l.take j) = y at *
      generalize l[j] = x at *
      have hm0 : 0 ≤ y * x := Int.mul_nonneg h0 x0
      have hm1 : y * x ≤ 2000000000 * 3000000000 := Int.mul_le_mul h1 x1 x0 (by omega)
      have hb := emod_bd (x := y * x) p1
      go_wp2
      go_round
      case rel => exact ⟨j + 1, by omega, by go_num, by rw [HS.out], by rw [HS.out]; exact hb.1, by rw [HS.out]; omega⟩
      case measure => simp [intOf]; omega
    · obtain rfl : j = l.length := by omega
      rw [List.take_length]
      go_wp2
      go_ret
      exact ⟨rfl, hE⟩

set_option maxHeartbeats 1000000 in
theorem gMul_any (p q g : Int) (A : Option Addr) (n c : Nat) (l : List Int) (w : World) (h : GrpB p q) (ha : RdI w A l) (hl : l.length = n) (hn : n ≤ maxLen) (hr : ∀ x ∈ l, 0 ≤ x ∧ x ≤ 3000000000) :
    Calls Tryz.prog 46 #[.agg #[.int .i64 p, .int .i64 q, .int .i64 g], .slice A n c] w fun e w' => e = .returned (.int .i64 (gmul p l)) ∧ Ext w w' := by
  obtain ⟨p1, p2, q1, q2⟩ := h
  unfold maxLen at hn
  have hE := (Ext.refl w).alloc (.cells #[.int .i64 p, .int .i64 q, .int .i64 g] 33)
  have C := (Blk.new w 33 #[.int .i64 p, .int .i64 q, .int .i64 g]).cells
  have HR := Lib.hid hr
  have hp0 : (p == 0) = false := by simp; omega
  clear hr
  subst hl
  go_enter Tryz.func46, Tryz.ntmps46
  go_wp2
  go_loop [5, 10] (fun o i => ∃ j : Nat, j ≤ l.length ∧ i = .int .i64 j ∧ o = .int .i64 (gmul p (l.take j)) ∧ 0 ≤ gmul p (l.take j) ∧ gmul p (l.take j) ≤ 2000000000) (fun _ i => l.length - (intOf i).toNat)
  case atStart => exact ⟨0, Nat.zero_le _, rfl, rfl, by simp [gmul], by simp [gmul]⟩
  case round =>
    obtain ⟨j, hj, rfl, rfl, h0, h1⟩ := hrel
    by_cases hlt : j < l.length
    · obtain ⟨ad, rfl, hc⟩ := (ha.ext hE).at_ hlt
      obtain ⟨x0, x1⟩ := HR.out l[j] (List.getElem_mem hlt)
      have HS := Lib.hid (gmul_take (p := p) hlt)
      generalize gmul p (l.take j) = y at *
      generalize l[j] = x at *
      have hm0 : 0 ≤ y * x := Int.mul_nonneg h0 x0
      have hm1 : y * x ≤ 2000000000 * 3000000000 := Int.mul_le_mul h1 x1 x0 (by omega)
      have hb := emod_bd (x := y * x) p1
      go_wp2
      go_round
      case rel => exact ⟨j + 1, by omega, by go_num, by rw [HS.out], by rw [HS.out]; exact hb.1, by rw [HS.out]; omega⟩
      case measure => simp [intOf]; omega
    · obtain rfl : j = l.length := by omega
      rw [List.take_length]
      go_wp2
      go_ret
      exact ⟨rfl, hE⟩
end Go.Proofs.YtnhdohjlbchniaaGreat
