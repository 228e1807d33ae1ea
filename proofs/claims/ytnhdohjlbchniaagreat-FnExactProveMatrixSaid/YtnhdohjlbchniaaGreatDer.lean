/- Contracts for derived elements: the program's and the reference's. -/
import Derived.Test.YtnhdohjlbchniaaGreatProg
import Derived.Test.YtnhdohjlbchniaaGreatDerP
import Derived.Test.YtnhdohjlbchniaaGreatEncC
namespace Go.Proofs.YtnhdohjlbchniaaGreat
open Go.RowKit

theorem derA0 (p q g : Int) (s : ByteArray) : derA p q g s 0 = true := rfl
theorem ownI_lit0 {w : World} {base e : Nat} (hb : base ≤ w.heap.size) : OwnI (w.alloc (.cells #[] e)) base e (some ⟨w.heap.size, 0, none⟩) 0 0 [] := ownI_lit [] rfl rfl hb (Nat.zero_le _)
theorem quietD {P : Program} {f : FuncId} {args : Array Value} {w : World} {n : Nat} {u v : Int} (h : Calls P f args (w.drewN n) fun e w' => e = .returned (.int .i64 u) ∧ w.drewN n = w') (huv : u = v) :
    Calls P f args (w.drewN n) fun e w'' => e = .returned (.int .i64 v) ∧ ∃ m, w'' = w.drewN m := h.mono fun _ _ ⟨he, hm⟩ => ⟨by rw [he, huv], n, hm.symm⟩
theorem rd_five {w : World} {a b c d e : Int} {k : Nat} (hk : k = w.heap.size) : RdI (w.alloc (.cells #[.int .i64 a, .int .i64 b, .int .i64 c, .int .i64 d, .int .i64 e] 3)) (some ⟨k, 0, none⟩) [a, b, c, d, e] :=
  (ownI_lit (w := w) (base := w.heap.size) [a, b, c, d, e] rfl hk (Nat.le_refl _) (by unfold maxLen; simp)).rd
theorem der_ok {p q g : Int} (h : grpB p q g = true) {s : ByteArray} (hs : s.size ≤ 40) {k c : Int} (hk : 0 ≤ k ∧ k ≤ 4611686018427387903) (hc : 0 ≤ c ∧ c ≤ 1000) : hlOk s [p, q, g, k, c] = true ∧ allR [p, q, g, k, c] 0 4611686018427387903 = true := by
  have hG := grpB_in h
  have h2 := hG.p9
  have h3 := hG.q2
  have h4 := hG.qp
  have h5 := hG.g2
  have h6 := hG.gp
  have hA : allR [p, q, g, k, c] 0 4611686018427387903 = true := by
    rw [allR_iff]
    intro x hx
    simp only [List.mem_cons, List.not_mem_nil, or_false] at hx
    rcases hx with rfl | rfl | rfl | rfl | rfl <;> omega
  refine ⟨?_, hA⟩
  unfold hlOk
  rw [hA, decide_eq_true hs, decide_eq_true (show s.size + 1 + [p, q, g, k, c].length ≤ 400 by simp; omega)]
  rfl
/-- What is reckoned at one trial. -/
theorem der_step {p q g : Int} (h : grpB p q g = true) (s : ByteArray) (k c : Int) : ∃ d : Int, hInt (labL s [p, q, g, k, c]) = d ∧ 0 ≤ d ∧ d ≤ 4611686018427387903 ∧ derX p q g s k c = powM (1 + d % (p - 1)) ((p - 1) / q) p ∧
    0 ≤ d % (p - 1) ∧ d % (p - 1) ≤ p - 2 ∧ d.tmod (p - 1) = d % (p - 1) ∧ 0 ≤ (p - 1) / q ∧ (p - 1) / q ≤ p - 1 ∧ (p - 1).tdiv q = (p - 1) / q := by
  have hG := grpB_in h
  have h2 := hG.p3
  have h3 := hG.q2
  have hb := hInt_bd (labL s [p, q, g, k, c])
  refine ⟨_, rfl, hb.1, hb.2, rfl, Int.emod_nonneg _ (by omega), ?_, Int.tmod_eq_emod_of_nonneg hb.1, Int.ediv_nonneg (by omega) (by omega), Int.ediv_le_self _ (by omega), ?_⟩
  · have := Int.emod_lt_of_pos (hInt (labL s [p, q, g, k, c])) (show 0 < p - 1 by omega)
    omega
  · exact Int.tdiv_eq_ediv_of_nonneg (by omega)

set_option maxRecDepth 100000 in
set_option maxHeartbeats 4000000 in
theorem derive_any (p q g : Int) (s : ByteArray) (k : Int) (w : World) (h : grpB p q g = true) (hs : s.size ≤ 40) (hk : 0 ≤ k ∧ k ≤ 4611686018427387903) :
    Calls Tryz.prog 90 #[.agg #[.int .i64 p, .int .i64 q, .int .i64 g], .string s, .int .i64 k] w fun e w' => e = .returned (.tuple #[.int .i64 (derV p q g s k), .bool (derV p q g s k != 0)]) ∧ Ext w w' := by
  have hG := grpB_in h
  have hp3 := hG.p3
  have hp9 := hG.p9
  have hq2 := hG.q2
  have H := Lib.hid h
  have hE := (Ext.refl w).alloc (.cells #[.int .i64 p, .int .i64 q, .int .i64 g] 33)
  have B := Blk.new w 33 #[.int .i64 p, .int .i64 q, .int .i64 g]
  obtain ⟨V, hV⟩ : ∃ V, derV p q g s k = V := ⟨_, rfl⟩
  rw [hV]
  have HV : Hid (derF (derG p q g s k) (1000 - 0) 0 = V) := hV
  have hq0 : (q == 0) = false := by simp; omega
  have hp0 : (p - 1 == 0) = false := by simp; omega
  have hpn : ¬ p - 1 = 0 := by omega
  have hqn : ¬ q = 0 := by omega
  clear hV h
  go_enter Tryz.func90, Tryz.ntmps90
  go_wp2
  go_loopw [12] (fun i wr => ∃ c : Nat, c ≤ 1000 ∧ i = .int .i64 c ∧ Hid (derF (derG p q g s k) (1000 - c) c = V) ∧ Blk wr w.heap.size 33 #[.int .i64 p, .int .i64 q, .int .i64 g] ∧ Ext w wr) (fun i _ => 1000 - (intOf i).toNat)
  case atStart => exact ⟨0, by omega, rfl, HV, B, hE⟩
  case round =>
    clear B hE HV
    obtain ⟨c, hc, rfl, HI, B, E⟩ := hrel
    by_cases hlt : c < 1000
    · obtain ⟨k1, k2⟩ := der_ok H.out hs hk (c := (c : Int)) (by omega)
      obtain ⟨d, hd, hd0, hd1, hX, m0, m1, m2, v0, v1, v2⟩ := der_step H.out s k (c : Int)
      have hval : hlVal s [p, q, g, k, (c : Int)] = d := by rw [hlVal, k1, if_pos rfl, hd]
      have hn : 1000 - c = (1000 - (c + 1)) + 1 := by omega
      have hI2 := HI.out
      rw [hn] at hI2
      obtain ⟨x, hx⟩ : ∃ x, powM (1 + d % (p - 1)) ((p - 1) / q) p = x := ⟨_, rfl⟩
      have hXx : derG p q g s k c = x := by rw [← hx]; exact hX
      have hx0 : x ≠ 0 := by rw [← hXx]; exact derX_ne H.out s k (c : Int)
      have K1 := Lib.hid k1
      have HVAL := Lib.hid hval
      have HX := Lib.hid hx
      obtain ⟨D, hD⟩ : ∃ D, d % (p - 1) = D := ⟨_, rfl⟩
      obtain ⟨T, hT⟩ : ∃ T, (p - 1) / q = T := ⟨_, rfl⟩
      rw [hD, hT] at HX
      rw [hD] at m0 m1 m2
      rw [hT] at v0 v1 v2
      clear k1 k2 hval hd hX hx hn hD hT
      have s1 : IntKind.i64.wrap (p - 1) = p - 1 := by rw [IntKind.wrap_i64]; omega
      have s2 : IntKind.i64.wrap (1 + D) = 1 + D := by rw [IntKind.wrap_i64]; omega
      have s3 : IntKind.i64.wrap T = T := by rw [IntKind.wrap_i64]; omega
      have s4 : IntKind.i64.wrap D = D := by rw [IntKind.wrap_i64]; omega
      have C := B.cells
      have hEb := (Ext.refl wr).alloc (.cells #[.int .i64 p, .int .i64 q, .int .i64 g, .int .i64 k, .int .i64 c] 3)
      have hsl : s.size ≤ 1000000000 := by omega
      by_cases hx1 : x = 1
      · have hnext : derF (derG p q g s k) (1000 - (c + 1)) (c + 1) = V := by rw [← hI2]; exact (derF_one (by rw [hXx]; exact hx1)).symm
        have HN := Lib.hid hnext
        have HX1 := Lib.hid hx1
        clear hnext hI2 hx1 hx0 hXx
        go_wp2_with fail
        refine (iHashLabelled_any s _ 5 5 [p, q, g, k, (c : Int)] _ (rd_five (by simp)) rfl (by omega) hsl).mono ?_
        rintro e w1 ⟨he, hb⟩
        rw [HVAL.out, K1.out] at he; subst he
        have B1 := B.ext (hEb.trans hb)
        have C1 := B1.cells
        clear C
        go_wp2
        go_quiet ((go_at_call 88; exact quietD (power_any (1 + D) T p _ (by omega) (by omega) (by omega) (by omega) (by omega) (by omega)) (HX.out.trans HX1.out)))
        go_wp2
        go_roundw
        case rel => exact ⟨c + 1, by omega, by go_num, HN.out, B1, (E.trans (hEb.trans hb)).drewN _⟩
        case measure => simp [intOf]; omega
      · have hgot : V = x := by rw [← hI2, derF_got (by rw [hXx]; exact hx1)]; exact hXx
        have hne : (V != 0) = true := by rw [hgot]; simp [hx0]
        have hx1b : (x != 1) = true := by simp [hx1]
        have HGOT := Lib.hid hgot
        have HNE := Lib.hid hne
        clear hgot hne hI2 hx1 hx0 hXx
        go_wp2_with fail
        refine (iHashLabelled_any s _ 5 5 [p, q, g, k, (c : Int)] _ (rd_five (by simp)) rfl (by omega) hsl).mono ?_
        rintro e w1 ⟨he, hb⟩
        rw [HVAL.out, K1.out] at he; subst he
        have B1 := B.ext (hEb.trans hb)
        have C1 := B1.cells
        clear C
        go_wp2
        go_quiet ((go_at_call 88; exact quietD (power_any (1 + D) T p _ (by omega) (by omega) (by omega) (by omega) (by omega) (by omega)) HX.out))
        go_wp2
        go_ret2
        refine ⟨?_, (E.trans (hEb.trans hb)).drewN _⟩
        rw [HNE.out, HGOT.out]; rfl
    · obtain rfl : c = 1000 := by omega
      have hfin : (0 : Int) = V := HI.out
      have hne : (V != 0) = false := by rw [← hfin]; rfl
      subst hfin
      go_wp2
      go_ret2
      exact ⟨by rw [hne]; rfl, E⟩
set_option maxRecDepth 100000 in
set_option maxHeartbeats 4000000 in
theorem hDerived_any (p q g : Int) (s : ByteArray) (k : Int) (w : World) (h : grpB p q g = true) (hs : s.size ≤ 40) (hk : 0 ≤ k ∧ k ≤ 4611686018427387903) :
    Calls Tryz.prog 80 #[.agg #[.int .i64 p, .int .i64 q, .int .i64 g], .string s, .int .i64 k] w fun e w' => e = .returned (.int .i64 (derV p q g s k)) ∧ Ext w w' := by
  have hG := grpB_in h
  have hp3 := hG.p3
  have hp9 := hG.p9
  have hq2 := hG.q2
  have H := Lib.hid h
  have hE := (Ext.refl w).alloc (.cells #[.int .i64 p, .int .i64 q, .int .i64 g] 33)
  have B := Blk.new w 33 #[.int .i64 p, .int .i64 q, .int .i64 g]
  obtain ⟨V, hV⟩ : ∃ V, derV p q g s k = V := ⟨_, rfl⟩
  rw [hV]
  have HV : Hid (derF (derG p q g s k) (1000 - 0) 0 = V) := hV
  have hq0 : (q == 0) = false := by simp; omega
  have hp0 : (p - 1 == 0) = false := by simp; omega
  have hpn : ¬ p - 1 = 0 := by omega
  have hqn : ¬ q = 0 := by omega
  clear hV h
  go_enter Tryz.func80, Tryz.ntmps80
  go_wp2
  go_loopw [7] (fun i wr => ∃ c : Nat, c ≤ 1000 ∧ i = .int .i64 c ∧ Hid (derF (derG p q g s k) (1000 - c) c = V) ∧ Blk wr w.heap.size 33 #[.int .i64 p, .int .i64 q, .int .i64 g] ∧ Ext w wr) (fun i _ => 1000 - (intOf i).toNat)
  case atStart => exact ⟨0, by omega, rfl, HV, B, hE⟩
  case round =>
    clear B hE HV
    obtain ⟨c, hc, rfl, HI, B, E⟩ := hrel
    by_cases hlt : c < 1000
    · obtain ⟨k1, k2⟩ := der_ok H.out hs hk (c := (c : Int)) (by omega)
      obtain ⟨d, hd, hd0, hd1, hX, m0, m1, m2, v0, v1, v2⟩ := der_step H.out s k (c : Int)
      have hn : 1000 - c = (1000 - (c + 1)) + 1 := by omega
      have hI2 := HI.out
      rw [hn] at hI2
      obtain ⟨x, hx⟩ : ∃ x, powM (1 + d % (p - 1)) ((p - 1) / q) p = x := ⟨_, rfl⟩
      have hXx : derG p q g s k c = x := by rw [← hx]; exact hX
      have K2 := Lib.hid k2
      have HD := Lib.hid hd
      have HX := Lib.hid hx
      obtain ⟨D, hD⟩ : ∃ D, d % (p - 1) = D := ⟨_, rfl⟩
      obtain ⟨T, hT⟩ : ∃ T, (p - 1) / q = T := ⟨_, rfl⟩
      rw [hD, hT] at HX
      rw [hD] at m0 m1 m2
      rw [hT] at v0 v1 v2
      clear k1 k2 hd hX hx hn hD hT
      have s1 : IntKind.i64.wrap (p - 1) = p - 1 := by rw [IntKind.wrap_i64]; omega
      have s2 : IntKind.i64.wrap (1 + D) = 1 + D := by rw [IntKind.wrap_i64]; omega
      have s3 : IntKind.i64.wrap T = T := by rw [IntKind.wrap_i64]; omega
      have s4 : IntKind.i64.wrap D = D := by rw [IntKind.wrap_i64]; omega
      have hS : ∀ V, Ext wr V → V.cell? ⟨w.heap.size, 0, none⟩ = some (.int .i64 p) ∧ V.cell? ⟨w.heap.size, 1, none⟩ = some (.int .i64 q) ∧ V.cell? ⟨w.heap.size, 2, none⟩ = some (.int .i64 g) := fun V hV => by
        have a0 := (B.ext hV).cells
        exact ⟨a0 0, a0 1, a0 2⟩
      have hEb := (Ext.refl wr).alloc (.cells #[.int .i64 p, .int .i64 q, .int .i64 g, .int .i64 k, .int .i64 c] 3)
      cases hx1 : (x != 1)
      · have hx1' : x = 1 := by simpa using hx1
        have hnext : derF (derG p q g s k) (1000 - (c + 1)) (c + 1) = V := by rw [← hI2]; exact (derF_one (by rw [hXx]; exact hx1')).symm
        have HN := Lib.hid hnext
        clear hnext hI2 hXx
        subst hx1'
        clear hx1
        go_wp2
        go_region_held3 (fun V => V.cell? ⟨w.heap.size, 0, none⟩ = some (.int .i64 p) ∧ V.cell? ⟨w.heap.size, 1, none⟩ = some (.int .i64 q) ∧ V.cell? ⟨w.heap.size, 2, none⟩ = some (.int .i64 g)) (exact hS _ (by repeat (first | with_reducible assumption | with_reducible exact Ext.refl _ | with_reducible apply Ext.alloc | with_reducible apply Ext.drew | with_reducible apply Ext.drewN)))
          (first
            | (go_at_call 101; refine (hLabelled_any s _ 5 5 [p, q, g, k, (c : Int)] _ (by omega) (RdI.ext (rd_five (w := wr) rfl) ((Ext.refl _).drew)) rfl (by omega) K2.out).mono ?_; rintro e w1 ⟨he, hb⟩; rw [HD.out] at he; subst he; have hx := Ext.trans (w := wr) (by repeat (first | with_reducible assumption | with_reducible exact Ext.refl _ | with_reducible apply Ext.alloc | with_reducible apply Ext.drew | with_reducible apply Ext.drewN)) hb)
            | fail)
        have B1 := B.ext hx
        have C1 := B1.cells
        go_wp2
        go_quiet ((go_at_call 77; exact quietD (nPower_any (1 + D) T p _ (by omega) (by omega) (by omega) (by omega) (by omega) (by omega)) HX.out))
        go_wp2
        go_roundw
        case rel => exact ⟨c + 1, by omega, by go_num, HN.out, B1, (E.trans hx).drewN _⟩
        case measure => simp [intOf]; omega
      · have hgot : V = x := by rw [← hI2, derF_got (by rw [hXx]; simpa using hx1)]; exact hXx
        have HGOT := Lib.hid hgot
        clear hgot hI2 hXx
        go_wp2
        go_region_held3 (fun V => V.cell? ⟨w.heap.size, 0, none⟩ = some (.int .i64 p) ∧ V.cell? ⟨w.heap.size, 1, none⟩ = some (.int .i64 q) ∧ V.cell? ⟨w.heap.size, 2, none⟩ = some (.int .i64 g)) (exact hS _ (by repeat (first | with_reducible assumption | with_reducible exact Ext.refl _ | with_reducible apply Ext.alloc | with_reducible apply Ext.drew | with_reducible apply Ext.drewN)))
          (first
            | (go_at_call 101; refine (hLabelled_any s _ 5 5 [p, q, g, k, (c : Int)] _ (by omega) (RdI.ext (rd_five (w := wr) rfl) ((Ext.refl _).drew)) rfl (by omega) K2.out).mono ?_; rintro e w1 ⟨he, hb⟩; rw [HD.out] at he; subst he; have hx := Ext.trans (w := wr) (by repeat (first | with_reducible assumption | with_reducible exact Ext.refl _ | with_reducible apply Ext.alloc | with_reducible apply Ext.drew | with_reducible apply Ext.drewN)) hb)
            | fail)
        have B1 := B.ext hx
        have C1 := B1.cells
        go_wp2
        go_quiet ((go_at_call 77; exact quietD (nPower_any (1 + D) T p _ (by omega) (by omega) (by omega) (by omega) (by omega) (by omega)) HX.out))
        go_wp2
        go_ret
        exact ⟨by rw [HGOT.out]; rfl, (E.trans hx).drewN _⟩
    · obtain rfl : c = 1000 := by omega
      have hfin : (0 : Int) = V := HI.out
      subst hfin
      go_wp2
      go_ret
      exact ⟨rfl, E⟩
end Go.Proofs.YtnhdohjlbchniaaGreat
