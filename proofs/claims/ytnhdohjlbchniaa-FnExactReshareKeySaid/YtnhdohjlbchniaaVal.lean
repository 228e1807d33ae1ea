/- Contracts for commitments at a trustee and for right shares: the program's and the reference's. (Printed by tools/gen_val.py.) -/
import Derived.Test.YtnhdohjlbchniaaProg
import Derived.Test.YtnhdohjlbchniaaEncC
import Derived.Test.YtnhdohjlbchniaaRes
namespace Go.Proofs.Ytnhdohjlbchniaa
open Go.RowKit

/-- The powers of a trustee's number. -/
def powE (q i : Int) : Nat → Int
  | 0 => 1
  | k + 1 => powE q i k * i % q
theorem powE_bd {q : Int} (hq : 2 ≤ q) (hq9 : q ≤ 2000000000) (i : Int) : ∀ k, 0 ≤ powE q i k ∧ powE q i k < q
  | 0 => by show (0 : Int) ≤ 1 ∧ 1 < q; omega
  | k + 1 => ⟨Int.emod_nonneg _ (by omega), Int.emod_lt_of_pos _ (by omega)⟩
/-- The commitment to the value at a trustee. -/
def comO (p q : Int) (cs : List Int) (i : Int) : Nat → Int
  | 0 => 1
  | k + 1 => gmul p [comO p q cs i k, gpw p q (cs.getD k 0) (powE q i k)]
/-- A share is right. -/
def fitB (p q g : Int) (cs : List Int) (i s : Int) : Bool := gpw p q g s == comO p q cs i cs.length
set_option maxRecDepth 100000 in
set_option maxHeartbeats 4000000 in
theorem commitAt_any (p q g i : Int) (A : Option Addr) (n c : Nat) (cs : List Int) (w : World) (h : GrpB p q) (hq : 2 ≤ q) (hq9 : q ≤ 2000000000) (hi : 0 ≤ i ∧ i ≤ 1000) (ha : RdI w A cs) (hl : cs.length = n) (hn : n ≤ 1000) (hb : ∀ y ∈ cs, 0 ≤ y ∧ y ≤ 3000000000) :
    Calls Try.prog 45 #[.agg #[.int .i64 p, .int .i64 q, .int .i64 g], .slice A n c, .int .i64 i] w fun e w' => e = .returned (.int .i64 (comO p q cs i n)) ∧ Ext w w' := by
  subst hl
  have hq0 : (q == 0) = false := by simp; omega
  have E := (Ext.refl w).alloc (.cells #[.int .i64 p, .int .i64 q, .int .i64 g] 31)
  have B0 := Blk.new w 31 #[.int .i64 p, .int .i64 q, .int .i64 g]
  have HB := Lib.hid hb
  clear hb
  go_enter Try.func45, Try.ntmps45
  go_wp2
  generalize (w.alloc (.cells #[.int .i64 p, .int .i64 q, .int .i64 g] 31)) = Wb at *
  go_loopw [7, 8, 13] (fun o e k wr => ∃ (j : Nat) (O P : Int), j ≤ cs.length ∧ k = .int .i64 j ∧ o = .int .i64 O ∧ e = .int .i64 P ∧ 0 ≤ O ∧ O ≤ 2000000000 ∧ 0 ≤ P ∧ P < q ∧ Hid (O = comO p q cs i j) ∧ Hid (P = powE q i j) ∧ Ext Wb wr) (fun _ _ k _ => cs.length - (intOf k).toNat)
  case atStart => exact ⟨0, 1, 1, Nat.zero_le _, rfl, rfl, rfl, by omega, by omega, by omega, by omega, rfl, rfl, Ext.refl _⟩
  case round =>
    obtain ⟨j, O, P, hj, rfl, rfl, rfl, o1, o2, p1, p2, HO, HP, E2⟩ := hrel
    by_cases hlt : j < cs.length
    · obtain ⟨ad, rfl, hc⟩ := (ha.ext (E.trans E2)).at_ hlt
      obtain ⟨x1, x2⟩ := HB.out _ (List.getElem_mem hlt)
      have hst : comO p q cs i (j + 1) = gmul p [O, gpw p q cs[j] P] := by
        have e1 : cs.getD j 0 = cs[j] := by simp [List.getD_eq_getElem?_getD, hlt]
        rw [comO, e1, HO.out, HP.out]
      have HST := Lib.hid hst
      have HPS : Hid (powE q i (j + 1) = P * i % q) := by show _ = _; rw [powE, HP.out]
      clear hst
      generalize cs[j] = x at *
      have gx := gpw_rg p q x P h
      have gm := gmul_rg h (l := [O, gpw p q x P]) (by intro z hz; simp only [List.mem_cons, List.not_mem_nil, or_false] at hz; rcases hz with rfl | rfl <;> omega)
      have m1 := intmul_bd P i p1 hi.1 (by omega) (by omega)
      have hws : IntKind.i64.wrap (P * i) = P * i := by rw [IntKind.wrap_i64]; omega
      have f1 := Int.emod_nonneg (P * i) (show q ≠ 0 by omega)
      have f2 := Int.emod_lt_of_pos (P * i) (show 0 < q by omega)
      have hS : ∀ V, Ext Wb V → V.cell? ⟨w.heap.size, 0, none⟩ = some (.int .i64 p) ∧ V.cell? ⟨w.heap.size, 1, none⟩ = some (.int .i64 q) ∧ V.cell? ⟨w.heap.size, 2, none⟩ = some (.int .i64 g) := fun V hV => by
        have a0 := (B0.ext hV).cells
        exact ⟨a0 0, a0 1, a0 2⟩
      go_wp2
      go_region_held3 (fun V => V.cell? ⟨w.heap.size, 0, none⟩ = some (.int .i64 p) ∧ V.cell? ⟨w.heap.size, 1, none⟩ = some (.int .i64 q) ∧ V.cell? ⟨w.heap.size, 2, none⟩ = some (.int .i64 g)) (exact hS _ (by repeat (first | with_reducible assumption | with_reducible exact Ext.refl _ | with_reducible apply Ext.alloc | with_reducible apply Ext.drew | with_reducible apply Ext.drewN)))
        (first
          | (go_at_call 49; refine (pow_any p q g x P _ h (by omega) (by omega) (by omega) (by omega)).mono ?_; rintro e w2 ⟨rfl, hb2⟩; have hx2 := Ext.trans (w := Wb) (by repeat (first | with_reducible assumption | with_reducible exact Ext.refl _ | with_reducible apply Ext.alloc | with_reducible apply Ext.drew | with_reducible apply Ext.drewN)) hb2)
          | (go_at_call 84; refine (mul_any p q g _ 2 2 [O, gpw p q x P] _ h (rd_two rfl) rfl (by decide) (two_rg (by omega) (by omega))).mono ?_; rintro e w3 ⟨rfl, hb3⟩; have hx3 := Ext.trans (w := Wb) (by repeat (first | with_reducible assumption | with_reducible exact Ext.refl _ | with_reducible apply Ext.alloc | with_reducible apply Ext.drew | with_reducible apply Ext.drewN)) hb3; have C3 := (B0.ext hx3).cells)
          | (go_at_call 50; refine (exp_any p q g (P * i) _ h (by omega) (by omega)).mono ?_; rintro e w4 ⟨rfl, hb4⟩; have hx4 := Ext.trans (w := Wb) (by repeat (first | with_reducible assumption | with_reducible exact Ext.refl _ | with_reducible apply Ext.alloc | with_reducible apply Ext.drew | with_reducible apply Ext.drewN)) hb4)
          | fail)
      go_wp2
      go_roundw
      case rel => exact ⟨j + 1, _, _, by omega, by go_num, rfl, rfl, gm.1, gm.2, f1, f2, by rw [Hid]; exact HST.out.symm, by rw [Hid]; exact HPS.out.symm, hx4⟩
      case measure => simp [intOf]; omega
    · obtain rfl : j = cs.length := by omega
      go_wp2
      go_ret
      exact ⟨ret_int HO.out, E.trans E2⟩
set_option maxRecDepth 100000 in
set_option maxHeartbeats 4000000 in
theorem sAt_any (p q g i : Int) (A : Option Addr) (n c : Nat) (cs : List Int) (w : World) (h : GrpB p q) (hq : 2 ≤ q) (hq9 : q ≤ 2000000000) (hi : 0 ≤ i ∧ i ≤ 1000) (ha : RdI w A cs) (hl : cs.length = n) (hn : n ≤ 1000) (hb : ∀ y ∈ cs, 0 ≤ y ∧ y ≤ 3000000000) :
    Calls Try.prog 33 #[.agg #[.int .i64 p, .int .i64 q, .int .i64 g], .slice A n c, .int .i64 i] w fun e w' => e = .returned (.int .i64 (comO p q cs i n)) ∧ Ext w w' := by
  subst hl
  have hq0 : (q == 0) = false := by simp; omega
  have E := (Ext.refl w).alloc (.cells #[.int .i64 p, .int .i64 q, .int .i64 g] 31)
  have B0 := Blk.new w 31 #[.int .i64 p, .int .i64 q, .int .i64 g]
  have HB := Lib.hid hb
  clear hb
  go_enter Try.func33, Try.ntmps33
  go_wp2
  generalize (w.alloc (.cells #[.int .i64 p, .int .i64 q, .int .i64 g] 31)) = Wb at *
  go_loopw [7, 8, 13] (fun o e k wr => ∃ (j : Nat) (O P : Int), j ≤ cs.length ∧ k = .int .i64 j ∧ o = .int .i64 O ∧ e = .int .i64 P ∧ 0 ≤ O ∧ O ≤ 2000000000 ∧ 0 ≤ P ∧ P < q ∧ Hid (O = comO p q cs i j) ∧ Hid (P = powE q i j) ∧ Ext Wb wr) (fun _ _ k _ => cs.length - (intOf k).toNat)
  case atStart => exact ⟨0, 1, 1, Nat.zero_le _, rfl, rfl, rfl, by omega, by omega, by omega, by omega, rfl, rfl, Ext.refl _⟩
  case round =>
    obtain ⟨j, O, P, hj, rfl, rfl, rfl, o1, o2, p1, p2, HO, HP, E2⟩ := hrel
    by_cases hlt : j < cs.length
    · obtain ⟨ad, rfl, hc⟩ := (ha.ext (E.trans E2)).at_ hlt
      obtain ⟨x1, x2⟩ := HB.out _ (List.getElem_mem hlt)
      have hst : comO p q cs i (j + 1) = gmul p [O, gpw p q cs[j] P] := by
        have e1 : cs.getD j 0 = cs[j] := by simp [List.getD_eq_getElem?_getD, hlt]
        rw [comO, e1, HO.out, HP.out]
      have HST := Lib.hid hst
      have HPS : Hid (powE q i (j + 1) = P * i % q) := by show _ = _; rw [powE, HP.out]
      clear hst
      generalize cs[j] = x at *
      have gx := gpw_rg p q x P h
      have gm := gmul_rg h (l := [O, gpw p q x P]) (by intro z hz; simp only [List.mem_cons, List.not_mem_nil, or_false] at hz; rcases hz with rfl | rfl <;> omega)
      have m1 := intmul_bd P i p1 hi.1 (by omega) (by omega)
      have hws : IntKind.i64.wrap (P * i) = P * i := by rw [IntKind.wrap_i64]; omega
      have f1 := Int.emod_nonneg (P * i) (show q ≠ 0 by omega)
      have f2 := Int.emod_lt_of_pos (P * i) (show 0 < q by omega)
      have hS : ∀ V, Ext Wb V → V.cell? ⟨w.heap.size, 0, none⟩ = some (.int .i64 p) ∧ V.cell? ⟨w.heap.size, 1, none⟩ = some (.int .i64 q) ∧ V.cell? ⟨w.heap.size, 2, none⟩ = some (.int .i64 g) := fun V hV => by
        have a0 := (B0.ext hV).cells
        exact ⟨a0 0, a0 1, a0 2⟩
      go_wp2
      go_region_held3 (fun V => V.cell? ⟨w.heap.size, 0, none⟩ = some (.int .i64 p) ∧ V.cell? ⟨w.heap.size, 1, none⟩ = some (.int .i64 q) ∧ V.cell? ⟨w.heap.size, 2, none⟩ = some (.int .i64 g)) (exact hS _ (by repeat (first | with_reducible assumption | with_reducible exact Ext.refl _ | with_reducible apply Ext.alloc | with_reducible apply Ext.drew | with_reducible apply Ext.drewN)))
        (first
          | (go_at_call 39; refine (gExp_any p q g x P _ h (by omega) (by omega) (by omega) (by omega)).mono ?_; rintro e w2 ⟨rfl, hb2⟩; have hx2 := Ext.trans (w := Wb) (by repeat (first | with_reducible assumption | with_reducible exact Ext.refl _ | with_reducible apply Ext.alloc | with_reducible apply Ext.drew | with_reducible apply Ext.drewN)) hb2)
          | (go_at_call 38; refine (gMul_any p q g _ 2 2 [O, gpw p q x P] _ h (rd_two rfl) rfl (by decide) (two_rg (by omega) (by omega))).mono ?_; rintro e w3 ⟨rfl, hb3⟩; have hx3 := Ext.trans (w := Wb) (by repeat (first | with_reducible assumption | with_reducible exact Ext.refl _ | with_reducible apply Ext.alloc | with_reducible apply Ext.drew | with_reducible apply Ext.drewN)) hb3; have C3 := (B0.ext hx3).cells)
          | fail)
      go_wp2
      go_roundw
      case rel => exact ⟨j + 1, _, _, by omega, by go_num, rfl, rfl, gm.1, gm.2, f1, f2, by rw [Hid]; exact HST.out.symm, by rw [Hid]; exact HPS.out.symm, hx3⟩
      case measure => simp [intOf]; omega
    · obtain rfl : j = cs.length := by omega
      go_wp2
      go_ret
      exact ⟨ret_int HO.out, E.trans E2⟩
set_option maxRecDepth 100000 in
set_option maxHeartbeats 4000000 in
theorem isShare_any (p q g i s : Int) (A : Option Addr) (n c : Nat) (cs : List Int) (w : World) (h : GrpB p q) (hq : 2 ≤ q) (hq9 : q ≤ 2000000000) (hg : 0 ≤ g ∧ g ≤ 3000000000) (hi : 0 ≤ i ∧ i ≤ 1000) (hs : 0 ≤ s ∧ s ≤ 3000000000) (ha : RdI w A cs) (hl : cs.length = n) (hn : n ≤ 1000) (hb : ∀ y ∈ cs, 0 ≤ y ∧ y ≤ 3000000000) :
    Calls Try.prog 85 #[.agg #[.int .i64 p, .int .i64 q, .int .i64 g], .slice A n c, .int .i64 i, .int .i64 s] w fun e w' => e = .returned (.bool (fitB p q g cs i s)) ∧ Ext w w' := by
  subst hl
  unfold fitB
  have E := (Ext.refl w).alloc (.cells #[.int .i64 p, .int .i64 q, .int .i64 g] 31)
  have B0 := Blk.new w 31 #[.int .i64 p, .int .i64 q, .int .i64 g]
  have HB := Lib.hid hb
  clear hb
  go_enter Try.func85, Try.ntmps85
  go_wp2
  generalize (w.alloc (.cells #[.int .i64 p, .int .i64 q, .int .i64 g] 31)) = Wb at *
  have hS : ∀ V, Ext Wb V → V.cell? ⟨w.heap.size, 0, none⟩ = some (.int .i64 p) ∧ V.cell? ⟨w.heap.size, 1, none⟩ = some (.int .i64 q) ∧ V.cell? ⟨w.heap.size, 2, none⟩ = some (.int .i64 g) := fun V hV => by
    have a0 := (B0.ext hV).cells
    exact ⟨a0 0, a0 1, a0 2⟩
  go_region_held3 (fun V => V.cell? ⟨w.heap.size, 0, none⟩ = some (.int .i64 p) ∧ V.cell? ⟨w.heap.size, 1, none⟩ = some (.int .i64 q) ∧ V.cell? ⟨w.heap.size, 2, none⟩ = some (.int .i64 g)) (exact hS _ (by repeat (first | with_reducible assumption | with_reducible exact Ext.refl _ | with_reducible apply Ext.alloc | with_reducible apply Ext.drew | with_reducible apply Ext.drewN)))
    (first
      | (go_at_call 49; refine (pow_any p q g g s _ h hg.1 hg.2 (by omega) (by omega)).mono ?_; rintro e w2 ⟨rfl, hb2⟩; have hx2 := Ext.trans (w := Wb) (by repeat (first | with_reducible assumption | with_reducible exact Ext.refl _ | with_reducible apply Ext.alloc | with_reducible apply Ext.drew | with_reducible apply Ext.drewN)) hb2)
      | (go_at_call 45; refine (commitAt_any p q g i A cs.length c cs _ h hq hq9 hi (ha.ext (Ext.trans E (by repeat (first | with_reducible assumption | with_reducible exact Ext.refl _ | with_reducible apply Ext.alloc | with_reducible apply Ext.drew | with_reducible apply Ext.drewN)))) rfl hn HB.out).mono ?_; rintro e w3 ⟨rfl, hb3⟩; have hx3 := Ext.trans (w := Wb) (by repeat (first | with_reducible assumption | with_reducible exact Ext.refl _ | with_reducible apply Ext.alloc | with_reducible apply Ext.drew | with_reducible apply Ext.drewN)) hb3)
      | fail)
  go_wp2
  go_ret
  exact ⟨rfl, E.trans hx3⟩
set_option maxRecDepth 100000 in
set_option maxHeartbeats 4000000 in
theorem sFits_any (p q g i s : Int) (A : Option Addr) (n c : Nat) (cs : List Int) (w : World) (h : GrpB p q) (hq : 2 ≤ q) (hq9 : q ≤ 2000000000) (hg : 0 ≤ g ∧ g ≤ 3000000000) (hi : 0 ≤ i ∧ i ≤ 1000) (hs : 0 ≤ s ∧ s ≤ 3000000000) (ha : RdI w A cs) (hl : cs.length = n) (hn : n ≤ 1000) (hb : ∀ y ∈ cs, 0 ≤ y ∧ y ≤ 3000000000) :
    Calls Try.prog 70 #[.agg #[.int .i64 p, .int .i64 q, .int .i64 g], .slice A n c, .int .i64 i, .int .i64 s] w fun e w' => e = .returned (.bool (fitB p q g cs i s)) ∧ Ext w w' := by
  subst hl
  unfold fitB
  have E := (Ext.refl w).alloc (.cells #[.int .i64 p, .int .i64 q, .int .i64 g] 31)
  have B0 := Blk.new w 31 #[.int .i64 p, .int .i64 q, .int .i64 g]
  have HB := Lib.hid hb
  clear hb
  go_enter Try.func70, Try.ntmps70
  go_wp2
  generalize (w.alloc (.cells #[.int .i64 p, .int .i64 q, .int .i64 g] 31)) = Wb at *
  have hS : ∀ V, Ext Wb V → V.cell? ⟨w.heap.size, 0, none⟩ = some (.int .i64 p) ∧ V.cell? ⟨w.heap.size, 1, none⟩ = some (.int .i64 q) ∧ V.cell? ⟨w.heap.size, 2, none⟩ = some (.int .i64 g) := fun V hV => by
    have a0 := (B0.ext hV).cells
    exact ⟨a0 0, a0 1, a0 2⟩
  go_region_held3 (fun V => V.cell? ⟨w.heap.size, 0, none⟩ = some (.int .i64 p) ∧ V.cell? ⟨w.heap.size, 1, none⟩ = some (.int .i64 q) ∧ V.cell? ⟨w.heap.size, 2, none⟩ = some (.int .i64 g)) (exact hS _ (by repeat (first | with_reducible assumption | with_reducible exact Ext.refl _ | with_reducible apply Ext.alloc | with_reducible apply Ext.drew | with_reducible apply Ext.drewN)))
    (first
      | (go_at_call 39; refine (gExp_any p q g g s _ h hg.1 hg.2 (by omega) (by omega)).mono ?_; rintro e w2 ⟨rfl, hb2⟩; have hx2 := Ext.trans (w := Wb) (by repeat (first | with_reducible assumption | with_reducible exact Ext.refl _ | with_reducible apply Ext.alloc | with_reducible apply Ext.drew | with_reducible apply Ext.drewN)) hb2)
      | (go_at_call 33; refine (sAt_any p q g i A cs.length c cs _ h hq hq9 hi (ha.ext (Ext.trans E (by repeat (first | with_reducible assumption | with_reducible exact Ext.refl _ | with_reducible apply Ext.alloc | with_reducible apply Ext.drew | with_reducible apply Ext.drewN)))) rfl hn HB.out).mono ?_; rintro e w3 ⟨rfl, hb3⟩; have hx3 := Ext.trans (w := Wb) (by repeat (first | with_reducible assumption | with_reducible exact Ext.refl _ | with_reducible apply Ext.alloc | with_reducible apply Ext.drew | with_reducible apply Ext.drewN)) hb3)
      | fail)
  go_wp2
  go_ret
  exact ⟨rfl, E.trans hx3⟩
end Go.Proofs.Ytnhdohjlbchniaa
