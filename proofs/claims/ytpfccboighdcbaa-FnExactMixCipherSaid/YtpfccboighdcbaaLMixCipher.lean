/- The law FnExactMixCipher returns true for every input. It holds without a condition. (Printed by tools/gen_lmixc.py.) -/
import Derived.Test.YtpfccboighdcbaaRows
import Derived.Test.YtpfccboighdcbaaMixd
import Derived.Test.YtpfccboighdcbaaSlK
import Derived.Test.YtpfccboighdcbaaOpenX
import Derived.Test.YtpfccboighdcbaaCon
import Derived.Test.YtpfccboighdcbaaFacts
namespace Go.Proofs.Ytpfccboighdcbaa
open Go.ChangeShapes Go.WideShapes Go.ChangeAt Go.RowKit
set_option linter.unusedVariables false
set_option linter.unusedSimpArgs false

theorem eqCipher_sameE (a b : Int) (w : World) : Calls Try.prog 13 #[.agg #[.int .i64 a, .int .i64 b], .agg #[.int .i64 a, .int .i64 b]] w fun e w' => e = .returned (.bool true) ∧ Ext w w' :=
  (eqCipher_same a b w).mono fun e w' h => ⟨h.1, by rw [h.2]; exact ((Ext.refl w).alloc _).alloc _⟩
namespace lawMixCipher
set_option maxRecDepth 100000 in
set_option maxHeartbeats 8000000 in
theorem walk (x0_0 x0_1 x0_2 : Int) (x1_0 x1_1 x1_2 x1_3 x1_4 : Int) (y2 : Int) (A2 : Option Addr) (l2 : List (Int × Int)) (c2 : Nat) (Z2 : Option Addr) (p2 : List (List Int × List Int × List Int)) (d2 : Nat) (C2a : Option Addr) (l2a : List Int) (f2a : Nat) (C2b : Option Addr) (l2b : List Int) (f2b : Nat) (C2c : Option Addr) (l2c : List Int) (f2c : Nat) (w : World) (f0_0 : Fits x0_0) (f0_1 : Fits x0_1) (f0_2 : Fits x0_2) (f1_0 : Fits x1_0) (f1_1 : Fits x1_1) (f1_2 : Fits x1_2) (f1_3 : Fits x1_3) (f1_4 : Fits x1_4) (r2 : RdC w A2 l2 ∧ l2.length ≤ c2 ∧ c2 ≤ maxLen) (q2 : RdP w Z2 p2 ∧ p2.length ≤ d2 ∧ d2 ≤ maxLen) (s2a : SlI w C2a l2a.length f2a l2a) (s2b : SlI w C2b l2b.length f2b l2b) (s2c : SlI w C2c l2c.length f2c l2c) :
    Calls Try.prog 3 #[.agg #[.int .i64 x0_0, .int .i64 x0_1, .int .i64 x0_2], .agg #[.int .i64 x1_0, .int .i64 x1_1, .int .i64 x1_2, .int .i64 x1_3, .int .i64 x1_4], .agg #[.int .i64 y2, .slice A2 l2.length c2, .slice Z2 p2.length d2, .slice C2a l2a.length f2a, .slice C2b l2b.length f2b, .slice C2c l2c.length f2c]] w fun e w' => e = .returned (.bool true) ∧ Ext w w' := by
  obtain ⟨ra2, rb2, rc2⟩ := r2
  obtain ⟨rq2, qb2, qc2⟩ := q2
  generalize hn2 : l2.length = n2 at *
  have Hn2 := Lib.hid hn2
  clear hn2
  generalize hm2 : p2.length = m2 at *
  have Hm2 := Lib.hid hm2
  clear hm2
  generalize hk2a : l2a.length = k2a at *
  clear hk2a
  generalize hk2b : l2b.length = k2b at *
  clear hk2b
  generalize hk2c : l2c.length = k2c at *
  clear hk2c
  have Q2 : n2 ≤ maxLen := Nat.le_trans rb2 rc2
  have Q2m : m2 ≤ maxLen := Nat.le_trans qb2 qc2
  unfold maxLen at Q2 Q2m
  rcases hx : mcR x0_0 x0_1 x0_2 x1_0 x1_1 x1_2 x1_3 x1_4 l2 with ⟨z0, z1⟩
  have HX := Lib.hid hx
  obtain ⟨zb, hzb⟩ : ∃ zb, mcB x0_0 x0_1 x0_2 x1_0 x1_1 x1_2 x1_3 x1_4 l2 = zb := ⟨_, rfl⟩
  have HZ := Lib.hid hzb
  clear hx hzb
  have B0 := Blk.new (w) 23 #[.int .i64 x0_0, .int .i64 x0_1, .int .i64 x0_2]
  have B1 := Blk.new ((w.alloc (.cells #[.int .i64 x0_0, .int .i64 x0_1, .int .i64 x0_2] 23))) 25 #[.int .i64 x1_0, .int .i64 x1_1, .int .i64 x1_2, .int .i64 x1_3, .int .i64 x1_4]
  replace B0 := B0.alloc (.cells #[.int .i64 x1_0, .int .i64 x1_1, .int .i64 x1_2, .int .i64 x1_3, .int .i64 x1_4] 25)
  simp only [World.size_alloc] at B1
  have B2 := Blk.new (((w.alloc (.cells #[.int .i64 x0_0, .int .i64 x0_1, .int .i64 x0_2] 23)).alloc (.cells #[.int .i64 x1_0, .int .i64 x1_1, .int .i64 x1_2, .int .i64 x1_3, .int .i64 x1_4] 25))) 32 #[.int .i64 y2, .slice A2 n2 c2, .slice Z2 m2 d2, .slice C2a k2a f2a, .slice C2b k2b f2b, .slice C2c k2c f2c]
  replace B0 := B0.alloc (.cells #[.int .i64 y2, .slice A2 n2 c2, .slice Z2 m2 d2, .slice C2a k2a f2a, .slice C2b k2b f2b, .slice C2c k2c f2c] 32)
  replace B1 := B1.alloc (.cells #[.int .i64 y2, .slice A2 n2 c2, .slice Z2 m2 d2, .slice C2a k2a f2a, .slice C2b k2b f2b, .slice C2c k2c f2c] 32)
  simp only [World.size_alloc] at B2
  have E := ((((Ext.refl w).alloc (.cells #[.int .i64 x0_0, .int .i64 x0_1, .int .i64 x0_2] 23)).alloc (.cells #[.int .i64 x1_0, .int .i64 x1_1, .int .i64 x1_2, .int .i64 x1_3, .int .i64 x1_4] 25)).alloc (.cells #[.int .i64 y2, .slice A2 n2 c2, .slice Z2 m2 d2, .slice C2a k2a f2a, .slice C2b k2b f2b, .slice C2c k2c f2c] 32))
  go_enter Try.func3, Try.ntmps3
  have CC0 := B0.cells
  have CC1 := B1.cells
  have CC2 := B2.cells
  go_wp2_with fail
  clear CC0 CC1 CC2
  generalize (((w.alloc (.cells #[.int .i64 x0_0, .int .i64 x0_1, .int .i64 x0_2] 23)).alloc (.cells #[.int .i64 x1_0, .int .i64 x1_1, .int .i64 x1_2, .int .i64 x1_3, .int .i64 x1_4] 25)).alloc (.cells #[.int .i64 y2, .slice A2 n2 c2, .slice Z2 m2 d2, .slice C2a k2a f2a, .slice C2b k2b f2b, .slice C2c k2c f2c] 32)) = w0 at *
  rcases Nat.lt_or_ge (1048576) (n2 + (m2 + tot (flP p2)) + (k2a + k2b + k2c)) with S2 | S2
  · refine (szSealed_any (z := _) (RdP.ext rq2 E) Hm2.out (SlI.ext s2a E) (SlI.ext s2b E) (SlI.ext s2c E) (by omega) (by omega) (by unfold maxLen; omega) (by unfold maxLen; omega)).mono ?_
    rw [if_neg (by omega)]
    rintro e w' ⟨rfl, hb⟩
    go_wp2
    go_ret
    exact ⟨rfl, E.trans hb⟩
  refine (szSealed_any (z := _) (RdP.ext rq2 E) Hm2.out (SlI.ext s2a E) (SlI.ext s2b E) (SlI.ext s2c E) (by omega) (by omega) (by unfold maxLen; omega) (by unfold maxLen; omega)).mono ?_
  rw [if_pos (by omega)]
  rintro e w1 ⟨rfl, hb⟩
  replace E := E.trans hb
  replace B0 := B0.ext hb
  replace B1 := B1.ext hb
  replace B2 := B2.ext hb
  clear hb
  go_wp2_with fail
  have hS : ∀ V, Ext w1 V → V.cell? ⟨w.heap.size, 0, none⟩ = some (.int .i64 x0_0) ∧ V.cell? ⟨w.heap.size, 1, none⟩ = some (.int .i64 x0_1) ∧ V.cell? ⟨w.heap.size, 2, none⟩ = some (.int .i64 x0_2) ∧ V.cell? ⟨w.heap.size + 1, 0, none⟩ = some (.int .i64 x1_0) ∧ V.cell? ⟨w.heap.size + 1, 1, none⟩ = some (.int .i64 x1_1) ∧ V.cell? ⟨w.heap.size + 1, 2, none⟩ = some (.int .i64 x1_2) ∧ V.cell? ⟨w.heap.size + 1, 3, none⟩ = some (.int .i64 x1_3) ∧ V.cell? ⟨w.heap.size + 1, 4, none⟩ = some (.int .i64 x1_4) ∧ V.cell? ⟨w.heap.size + 1 + 1, 0, none⟩ = some (.int .i64 y2) ∧ V.cell? ⟨w.heap.size + 1 + 1, 1, none⟩ = some (.slice A2 n2 c2) ∧ V.cell? ⟨w.heap.size + 1 + 1, 2, none⟩ = some (.slice Z2 m2 d2) ∧ V.cell? ⟨w.heap.size + 1 + 1, 3, none⟩ = some (.slice C2a k2a f2a) ∧ V.cell? ⟨w.heap.size + 1 + 1, 4, none⟩ = some (.slice C2b k2b f2b) ∧ V.cell? ⟨w.heap.size + 1 + 1, 5, none⟩ = some (.slice C2c k2c f2c) := fun V hV => by
    have a0 := (B0.ext hV).cells
    have a1 := (B1.ext hV).cells
    have a2 := (B2.ext hV).cells
    exact ⟨a0 0, a0 1, a0 2, a1 0, a1 1, a1 2, a1 3, a1 4, a2 0, a2 1, a2 2, a2 3, a2 4, a2 5⟩
  go_cut [8, 9] from 18 to 27 (fun c0 c1 wx => ∃ gk, c0 = .pointer (some ⟨gk, 0, none⟩) ∧ c1 = .bool zb ∧ Blk wx gk 35 #[.int .i64 z0, .int .i64 z1] ∧ w1.heap.size ≤ gk ∧ Ext w1 wx)
  case first =>
    refine wp_region_heldL (S := fun V => V.cell? ⟨w.heap.size, 0, none⟩ = some (.int .i64 x0_0) ∧ V.cell? ⟨w.heap.size, 1, none⟩ = some (.int .i64 x0_1) ∧ V.cell? ⟨w.heap.size, 2, none⟩ = some (.int .i64 x0_2) ∧ V.cell? ⟨w.heap.size + 1, 0, none⟩ = some (.int .i64 x1_0) ∧ V.cell? ⟨w.heap.size + 1, 1, none⟩ = some (.int .i64 x1_1) ∧ V.cell? ⟨w.heap.size + 1, 2, none⟩ = some (.int .i64 x1_2) ∧ V.cell? ⟨w.heap.size + 1, 3, none⟩ = some (.int .i64 x1_3) ∧ V.cell? ⟨w.heap.size + 1, 4, none⟩ = some (.int .i64 x1_4) ∧ V.cell? ⟨w.heap.size + 1 + 1, 0, none⟩ = some (.int .i64 y2) ∧ V.cell? ⟨w.heap.size + 1 + 1, 1, none⟩ = some (.slice A2 n2 c2) ∧ V.cell? ⟨w.heap.size + 1 + 1, 2, none⟩ = some (.slice Z2 m2 d2) ∧ V.cell? ⟨w.heap.size + 1 + 1, 3, none⟩ = some (.slice C2a k2a f2a) ∧ V.cell? ⟨w.heap.size + 1 + 1, 4, none⟩ = some (.slice C2b k2b f2b) ∧ V.cell? ⟨w.heap.size + 1 + 1, 5, none⟩ = some (.slice C2c k2c f2c)) 11 (by kernel_rfl) ?_ (fun hHeld => ?_)
    · exact hS _ (by repeat (first | with_reducible assumption | with_reducible exact Ext.refl _ | with_reducible apply Ext.alloc | with_reducible apply Ext.drew | with_reducible apply Ext.drewN))
    refine' wpAnyL_take (i := 0) (v := _) ?hi0 (by kernel_rfl) (by kernel_rfl) (by kernel_rfl) [11] (by kernel_rfl) ?hQ0 ?hy0 (by assumption) ?_
    case hi0 => (simp only [List.getElem?_toArray, List.getElem?_cons_zero]; rfl)
    case hy0 => refine Or.inl ⟨by rfl, ?_⟩; intro w hSw; (try dsimp only at hSw); go_simp <;> with_reducible rfl
    case hQ0 => exact fun _ _ _ h => h
    try simp only [Act.put, List.setIfInBounds_toArray, List.set_cons_zero, List.set_cons_succ]
    refine' wpAnyL_take (i := 2) (v := _) ?hi2 (by kernel_rfl) (by kernel_rfl) (by kernel_rfl) [11] (by kernel_rfl) ?hQ2 ?hy2 (by assumption) ?_
    case hi2 => (simp only [List.getElem?_toArray, List.getElem?_cons_succ, List.getElem?_cons_zero]; rfl)
    case hy2 => refine Or.inl ⟨by rfl, ?_⟩; intro w hSw; (try dsimp only at hSw); go_simp <;> with_reducible rfl
    case hQ2 => exact fun _ _ _ h => h
    try simp only [Act.put, List.setIfInBounds_toArray, List.set_cons_zero, List.set_cons_succ]
    refine' wpAnyL_take (i := 4) (v := _) ?hi4 (by kernel_rfl) (by kernel_rfl) (by kernel_rfl) [11] (by kernel_rfl) ?hQ4 ?hy4 (by assumption) ?_
    case hi4 => (simp only [List.getElem?_toArray, List.getElem?_cons_succ, List.getElem?_cons_zero]; rfl)
    case hy4 => refine Or.inl ⟨by rfl, ?_⟩; intro w hSw; (try dsimp only at hSw); go_simp <;> with_reducible rfl
    case hQ4 => exact fun _ _ _ h => h
    try simp only [Act.put, List.setIfInBounds_toArray, List.set_cons_zero, List.set_cons_succ]
    refine wpAnyL_ready (rs := [1, 10]) (by kernel_rfl) (by simp) ?_
    refine AllReadyL.cons rfl (by kernel_rfl) (fun KK hKK => ?_) ?_
    · go_simp
      go_at_call 9
      refine (toGroup_any x0_0 x0_1 x0_2 _).mono ?_
      rintro en wk1 ⟨rfl, hbk1⟩
      have hxk1 := Ext.trans (w := w1) (by repeat (first | with_reducible assumption | with_reducible exact Ext.refl _ | with_reducible apply Ext.alloc | with_reducible apply Ext.drew | with_reducible apply Ext.drewN)) hbk1
      refine hKK.out _ _ ?_ (fun hHeld => ?_)
      · exact hS _ (by repeat (first | with_reducible assumption | with_reducible exact Ext.refl _ | with_reducible apply Ext.alloc | with_reducible apply Ext.drew | with_reducible apply Ext.drewN))
      clear hKK KK
      try simp only [Act.put, List.setIfInBounds_toArray, List.set_cons_zero, List.set_cons_succ]
      refine wpAnyL_ready (rs := [3, 10]) (by kernel_rfl) (by simp) ?_
      refine AllReadyL.cons rfl (by kernel_rfl) (fun KK hKK => ?_) ?_
      · go_simp
        go_at_call 10
        refine (toContest_any x1_0 x1_1 x1_2 x1_3 x1_4 _).mono ?_
        rintro en wk3 ⟨rfl, hbk3⟩
        have hxk3 := Ext.trans (w := w1) (by repeat (first | with_reducible assumption | with_reducible exact Ext.refl _ | with_reducible apply Ext.alloc | with_reducible apply Ext.drew | with_reducible apply Ext.drewN)) hbk3
        refine hKK.out _ _ ?_ (fun hHeld => ?_)
        · exact hS _ (by repeat (first | with_reducible assumption | with_reducible exact Ext.refl _ | with_reducible apply Ext.alloc | with_reducible apply Ext.drew | with_reducible apply Ext.drewN))
        clear hKK KK
        try simp only [Act.put, List.setIfInBounds_toArray, List.set_cons_zero, List.set_cons_succ]
        refine wpAnyL_ready (rs := [5, 10]) (by kernel_rfl) (by simp) ?_
        refine AllReadyL.cons rfl (by kernel_rfl) (fun KK hKK => ?_) ?_
        · go_simp
          go_at_call 11
          refine (toSealed_any y2 A2 n2 c2 Z2 m2 d2 C2a k2a f2a C2b k2b f2b C2c k2c f2c l2 p2 l2a l2b l2c _ (RdC.ext ra2 (E.trans (by repeat (first | with_reducible assumption | with_reducible exact Ext.refl _ | with_reducible apply Ext.alloc | with_reducible apply Ext.drew | with_reducible apply Ext.drewN)))) Hn2.out (RdP.ext rq2 (E.trans (by repeat (first | with_reducible assumption | with_reducible exact Ext.refl _ | with_reducible apply Ext.alloc | with_reducible apply Ext.drew | with_reducible apply Ext.drewN)))) Hm2.out (SlI.ext s2a (E.trans (by repeat (first | with_reducible assumption | with_reducible exact Ext.refl _ | with_reducible apply Ext.alloc | with_reducible apply Ext.drew | with_reducible apply Ext.drewN)))) (SlI.ext s2b (E.trans (by repeat (first | with_reducible assumption | with_reducible exact Ext.refl _ | with_reducible apply Ext.alloc | with_reducible apply Ext.drew | with_reducible apply Ext.drewN)))) (SlI.ext s2c (E.trans (by repeat (first | with_reducible assumption | with_reducible exact Ext.refl _ | with_reducible apply Ext.alloc | with_reducible apply Ext.drew | with_reducible apply Ext.drewN)))) (by omega)).mono ?_
          rintro en wk5 ⟨At1, ct1, Xt1, dt1, Pt1, Dt10, gt10, Dt11, gt11, Dt12, gt12, rfl, t1, hbk5⟩
          have hxk5 := Ext.trans (w := w1) (by repeat (first | with_reducible assumption | with_reducible exact Ext.refl _ | with_reducible apply Ext.alloc | with_reducible apply Ext.drew | with_reducible apply Ext.drewN)) hbk5
          refine hKK.out _ _ ?_ (fun hHeld => ?_)
          · exact hS _ (by repeat (first | with_reducible assumption | with_reducible exact Ext.refl _ | with_reducible apply Ext.alloc | with_reducible apply Ext.drew | with_reducible apply Ext.drewN))
          clear hKK KK
          try simp only [Act.put, List.setIfInBounds_toArray, List.set_cons_zero, List.set_cons_succ]
          refine wpAnyL_ready (rs := [6, 10]) (by kernel_rfl) (by simp) ?_
          refine AllReadyL.cons rfl (by kernel_rfl) (fun KK hKK => ?_) ?_
          · go_simp
            go_at_call 8
            refine (sMixCipher_any x0_0 x0_1 x0_2 x1_0 x1_1 x1_2 x1_3 x1_4 y2 At1 n2 ct1 Xt1 m2 dt1 Dt10 k2a gt10 Dt11 k2b gt11 Dt12 k2c gt12 l2 _ (RdC.ext t1.c.rd (by repeat (first | with_reducible assumption | with_reducible exact Ext.refl _ | with_reducible apply Ext.alloc | with_reducible apply Ext.drew | with_reducible apply Ext.drewN))) t1.c.len t1.c.le).mono ?_
            rintro en wk6 ⟨hen, hbk6⟩
            rw [HX.out, HZ.out] at hen; subst hen
            have hxk6 := Ext.trans (w := w1) (by repeat (first | with_reducible assumption | with_reducible exact Ext.refl _ | with_reducible apply Ext.alloc | with_reducible apply Ext.drew | with_reducible apply Ext.drewN)) hbk6
            replace t1 := t1.ext (Ext.trans (by repeat (first | with_reducible assumption | with_reducible exact Ext.refl _ | with_reducible apply Ext.alloc | with_reducible apply Ext.drew | with_reducible apply Ext.drewN)) hbk6)
            refine hKK.out _ _ ?_ (fun hHeld => ?_)
            · exact hS _ (by repeat (first | with_reducible assumption | with_reducible exact Ext.refl _ | with_reducible apply Ext.alloc | with_reducible apply Ext.drew | with_reducible apply Ext.drewN))
            clear hKK KK
            try simp only [Act.put, List.setIfInBounds_toArray, List.set_cons_zero, List.set_cons_succ]
            refine' wpAnyL_take (i := 7) (v := _) ?hi7 (by kernel_rfl) (by kernel_rfl) (by kernel_rfl) [11] (by kernel_rfl) ?hQ7 ?hy7 (by assumption) ?_
            case hi7 => (simp only [List.getElem?_toArray, List.getElem?_cons_succ, List.getElem?_cons_zero]; rfl)
            case hy7 => refine Or.inl ⟨by rfl, ?_⟩; intro w hSw; (try dsimp only at hSw); go_simp <;> with_reducible rfl
            case hQ7 => exact fun _ _ _ h => h
            try simp only [Act.put, List.setIfInBounds_toArray, List.set_cons_zero, List.set_cons_succ]
            refine' wpAnyL_take (i := 8) (v := _) ?hi8 (by kernel_rfl) (by kernel_rfl) (by kernel_rfl) [11] (by kernel_rfl) ?hQ8 ?hy8 (by assumption) ?_
            case hi8 => (simp only [List.getElem?_toArray, List.getElem?_cons_succ, List.getElem?_cons_zero]; rfl)
            case hy8 => refine Or.inl ⟨by rfl, ?_⟩; intro w hSw; (try dsimp only at hSw); go_simp <;> with_reducible rfl
            case hQ8 => exact fun _ _ _ h => h
            try simp only [Act.put, List.setIfInBounds_toArray, List.set_cons_zero, List.set_cons_succ]
            refine' wpAnyL_takeP (i := 9) (v := _) ?hi9 (by kernel_rfl) (by kernel_rfl) (by kernel_rfl) (by kernel_rfl) ?hQ9 ?hy9 (by assumption) ?_
            case hi9 => (simp only [List.getElem?_toArray, List.getElem?_cons_succ, List.getElem?_cons_zero]; rfl)
            case hy9 => refine Or.inl ⟨by rfl, ?_⟩; intro w; go_simp <;> with_reducible rfl
            case hQ9 => exact fun _ _ _ h => h
            try simp only [Act.put, List.setIfInBounds_toArray, List.set_cons_zero, List.set_cons_succ]
            refine wpAnyL_ready (rs := [10]) (by kernel_rfl) (by simp) ?_
            refine AllReadyL.cons rfl (by kernel_rfl) (fun KK hKK => ?_) ?_
            · go_simp
              have BN := Blk.new wk6 35 #[.int .i64 0, .int .i64 0]
              have HGN : w1.heap.size ≤ wk6.heap.size := hxk6.size
              refine hKK.out _ _ ?_ (fun hHeld => ?_)
              · exact hS _ (by repeat (first | with_reducible assumption | with_reducible exact Ext.refl _ | with_reducible apply Ext.alloc | with_reducible apply Ext.drew | with_reducible apply Ext.drewN))
              clear hKK KK
              try simp only [Act.put, List.setIfInBounds_toArray, List.set_cons_zero, List.set_cons_succ]
              refine wpAnyL_ready (rs := [11]) (by kernel_rfl) (by simp) ?_
              refine AllReadyL.last rfl (by kernel_rfl) (fun KK hKK => ?_) ?_
              · have FN := BN.frozen
                have CN := BN.cells
                go_simp
                refine hKK.out _ _ ?_
                clear hKK KK
                try simp only [Act.put, List.setIfInBounds_toArray, List.set_cons_zero, List.set_cons_succ]
                refine' wpAny_take (i := 12) (v := _) ?hi12 (by kernel_rfl) (by kernel_rfl) (by kernel_rfl) ?hQ12 ?hy12 ?_
                case hi12 => (simp only [List.getElem?_toArray, List.getElem?_cons_succ, List.getElem?_cons_zero]; rfl)
                case hy12 => refine Or.inl ⟨by rfl, ?_⟩; intro w; go_simp <;> with_reducible rfl
                case hQ12 => exact fun _ _ _ h => h
                try simp only [Act.put, List.setIfInBounds_toArray, List.set_cons_zero, List.set_cons_succ]
                refine wpAny_done (by kernel_rfl) ?_ _
                go_wp2
                go_meet
                exact ⟨_, rfl, rfl, Blk.new wk6 35 #[.int .i64 z0, .int .i64 z1], hxk6.size, Ext.alloc (Ext.trans (w := w1) (by repeat (first | with_reducible assumption | with_reducible exact Ext.refl _ | with_reducible apply Ext.alloc | with_reducible apply Ext.drew | with_reducible apply Ext.drewN)) (Ext.refl wk6)) _⟩
              exact AllReadyL.nil
            exact AllReadyL.nil
          refine AllReadyL.cons rfl (by kernel_rfl) (fun KK hKK => ?_) ?_
          · go_simp
            have BN := Blk.new wk5 35 #[.int .i64 0, .int .i64 0]
            have HGN : w1.heap.size ≤ wk5.heap.size := hxk5.size
            refine hKK.out _ _ ?_ (fun hHeld => ?_)
            · exact hS _ (by repeat (first | with_reducible assumption | with_reducible exact Ext.refl _ | with_reducible apply Ext.alloc | with_reducible apply Ext.drew | with_reducible apply Ext.drewN))
            clear hKK KK
            try simp only [Act.put, List.setIfInBounds_toArray, List.set_cons_zero, List.set_cons_succ]
            refine wpAnyL_ready (rs := [6]) (by kernel_rfl) (by simp) ?_
            refine AllReadyL.cons rfl (by kernel_rfl) (fun KK hKK => ?_) ?_
            · go_simp
              go_at_call 8
              refine (sMixCipher_any x0_0 x0_1 x0_2 x1_0 x1_1 x1_2 x1_3 x1_4 y2 At1 n2 ct1 Xt1 m2 dt1 Dt10 k2a gt10 Dt11 k2b gt11 Dt12 k2c gt12 l2 _ (RdC.ext t1.c.rd (by repeat (first | with_reducible assumption | with_reducible exact Ext.refl _ | with_reducible apply Ext.alloc | with_reducible apply Ext.drew | with_reducible apply Ext.drewN))) t1.c.len t1.c.le).mono ?_
              rintro en wk6 ⟨hen, hbk6⟩
              rw [HX.out, HZ.out] at hen; subst hen
              have hxk6 := Ext.trans (w := w1) (by repeat (first | with_reducible assumption | with_reducible exact Ext.refl _ | with_reducible apply Ext.alloc | with_reducible apply Ext.drew | with_reducible apply Ext.drewN)) hbk6
              replace t1 := t1.ext (Ext.trans (by repeat (first | with_reducible assumption | with_reducible exact Ext.refl _ | with_reducible apply Ext.alloc | with_reducible apply Ext.drew | with_reducible apply Ext.drewN)) hbk6)
              replace BN := BN.ext (Ext.trans (by repeat (first | with_reducible assumption | with_reducible exact Ext.refl _ | with_reducible apply Ext.alloc | with_reducible apply Ext.drew | with_reducible apply Ext.drewN)) hbk6)
              refine hKK.out _ _ ?_ (fun hHeld => ?_)
              · exact hS _ (by repeat (first | with_reducible assumption | with_reducible exact Ext.refl _ | with_reducible apply Ext.alloc | with_reducible apply Ext.drew | with_reducible apply Ext.drewN))
              clear hKK KK
              try simp only [Act.put, List.setIfInBounds_toArray, List.set_cons_zero, List.set_cons_succ]
              refine' wpAnyL_take (i := 7) (v := _) ?hi7 (by kernel_rfl) (by kernel_rfl) (by kernel_rfl) [11] (by kernel_rfl) ?hQ7 ?hy7 (by assumption) ?_
              case hi7 => (simp only [List.getElem?_toArray, List.getElem?_cons_succ, List.getElem?_cons_zero]; rfl)
              case hy7 => refine Or.inl ⟨by rfl, ?_⟩; intro w hSw; (try dsimp only at hSw); go_simp <;> with_reducible rfl
              case hQ7 => exact fun _ _ _ h => h
              try simp only [Act.put, List.setIfInBounds_toArray, List.set_cons_zero, List.set_cons_succ]
              refine' wpAnyL_take (i := 8) (v := _) ?hi8 (by kernel_rfl) (by kernel_rfl) (by kernel_rfl) [11] (by kernel_rfl) ?hQ8 ?hy8 (by assumption) ?_
              case hi8 => (simp only [List.getElem?_toArray, List.getElem?_cons_succ, List.getElem?_cons_zero]; rfl)
              case hy8 => refine Or.inl ⟨by rfl, ?_⟩; intro w hSw; (try dsimp only at hSw); go_simp <;> with_reducible rfl
              case hQ8 => exact fun _ _ _ h => h
              try simp only [Act.put, List.setIfInBounds_toArray, List.set_cons_zero, List.set_cons_succ]
              refine' wpAnyL_takeP (i := 9) (v := _) ?hi9 (by kernel_rfl) (by kernel_rfl) (by kernel_rfl) (by kernel_rfl) ?hQ9 ?hy9 (by assumption) ?_
              case hi9 => (simp only [List.getElem?_toArray, List.getElem?_cons_succ, List.getElem?_cons_zero]; rfl)
              case hy9 => refine Or.inl ⟨by rfl, ?_⟩; intro w; go_simp <;> with_reducible rfl
              case hQ9 => exact fun _ _ _ h => h
              try simp only [Act.put, List.setIfInBounds_toArray, List.set_cons_zero, List.set_cons_succ]
              refine wpAnyL_ready (rs := [11]) (by kernel_rfl) (by simp) ?_
              refine AllReadyL.last rfl (by kernel_rfl) (fun KK hKK => ?_) ?_
              · have FN := BN.frozen
                have CN := BN.cells
                go_simp
                refine hKK.out _ _ ?_
                clear hKK KK
                try simp only [Act.put, List.setIfInBounds_toArray, List.set_cons_zero, List.set_cons_succ]
                refine' wpAny_take (i := 12) (v := _) ?hi12 (by kernel_rfl) (by kernel_rfl) (by kernel_rfl) ?hQ12 ?hy12 ?_
                case hi12 => (simp only [List.getElem?_toArray, List.getElem?_cons_succ, List.getElem?_cons_zero]; rfl)
                case hy12 => refine Or.inl ⟨by rfl, ?_⟩; intro w; go_simp <;> with_reducible rfl
                case hQ12 => exact fun _ _ _ h => h
                try simp only [Act.put, List.setIfInBounds_toArray, List.set_cons_zero, List.set_cons_succ]
                refine wpAny_done (by kernel_rfl) ?_ _
                go_wp2
                go_meet
                exact ⟨_, rfl, rfl, ((BN.set_ 0 (.int .i64 z0)).set_ 1 (.int .i64 z1)), HGN, (Ext.setCell (Ext.setCell (Ext.trans (w := w1) (by repeat (first | with_reducible assumption | with_reducible exact Ext.refl _ | with_reducible apply Ext.alloc | with_reducible apply Ext.drew | with_reducible apply Ext.drewN)) (Ext.refl wk6)) (p := ⟨_, 0, none⟩) HGN (.int .i64 z0)) (p := ⟨_, 1, none⟩) HGN (.int .i64 z1))⟩
              exact AllReadyL.nil
            exact AllReadyL.nil
          exact AllReadyL.nil
        refine AllReadyL.cons rfl (by kernel_rfl) (fun KK hKK => ?_) ?_
        · go_simp
          have BN := Blk.new wk3 35 #[.int .i64 0, .int .i64 0]
          have HGN : w1.heap.size ≤ wk3.heap.size := hxk3.size
          refine hKK.out _ _ ?_ (fun hHeld => ?_)
          · exact hS _ (by repeat (first | with_reducible assumption | with_reducible exact Ext.refl _ | with_reducible apply Ext.alloc | with_reducible apply Ext.drew | with_reducible apply Ext.drewN))
          clear hKK KK
          try simp only [Act.put, List.setIfInBounds_toArray, List.set_cons_zero, List.set_cons_succ]
          refine wpAnyL_ready (rs := [5]) (by kernel_rfl) (by simp) ?_
          refine AllReadyL.cons rfl (by kernel_rfl) (fun KK hKK => ?_) ?_
          · go_simp
            go_at_call 11
            refine (toSealed_any y2 A2 n2 c2 Z2 m2 d2 C2a k2a f2a C2b k2b f2b C2c k2c f2c l2 p2 l2a l2b l2c _ (RdC.ext ra2 (E.trans (by repeat (first | with_reducible assumption | with_reducible exact Ext.refl _ | with_reducible apply Ext.alloc | with_reducible apply Ext.drew | with_reducible apply Ext.drewN)))) Hn2.out (RdP.ext rq2 (E.trans (by repeat (first | with_reducible assumption | with_reducible exact Ext.refl _ | with_reducible apply Ext.alloc | with_reducible apply Ext.drew | with_reducible apply Ext.drewN)))) Hm2.out (SlI.ext s2a (E.trans (by repeat (first | with_reducible assumption | with_reducible exact Ext.refl _ | with_reducible apply Ext.alloc | with_reducible apply Ext.drew | with_reducible apply Ext.drewN)))) (SlI.ext s2b (E.trans (by repeat (first | with_reducible assumption | with_reducible exact Ext.refl _ | with_reducible apply Ext.alloc | with_reducible apply Ext.drew | with_reducible apply Ext.drewN)))) (SlI.ext s2c (E.trans (by repeat (first | with_reducible assumption | with_reducible exact Ext.refl _ | with_reducible apply Ext.alloc | with_reducible apply Ext.drew | with_reducible apply Ext.drewN)))) (by omega)).mono ?_
            rintro en wk5 ⟨At1, ct1, Xt1, dt1, Pt1, Dt10, gt10, Dt11, gt11, Dt12, gt12, rfl, t1, hbk5⟩
            have hxk5 := Ext.trans (w := w1) (by repeat (first | with_reducible assumption | with_reducible exact Ext.refl _ | with_reducible apply Ext.alloc | with_reducible apply Ext.drew | with_reducible apply Ext.drewN)) hbk5
            replace BN := BN.ext (Ext.trans (by repeat (first | with_reducible assumption | with_reducible exact Ext.refl _ | with_reducible apply Ext.alloc | with_reducible apply Ext.drew | with_reducible apply Ext.drewN)) hbk5)
            refine hKK.out _ _ ?_ (fun hHeld => ?_)
            · exact hS _ (by repeat (first | with_reducible assumption | with_reducible exact Ext.refl _ | with_reducible apply Ext.alloc | with_reducible apply Ext.drew | with_reducible apply Ext.drewN))
            clear hKK KK
            try simp only [Act.put, List.setIfInBounds_toArray, List.set_cons_zero, List.set_cons_succ]
            refine wpAnyL_ready (rs := [6]) (by kernel_rfl) (by simp) ?_
            refine AllReadyL.cons rfl (by kernel_rfl) (fun KK hKK => ?_) ?_
            · go_simp
              go_at_call 8
              refine (sMixCipher_any x0_0 x0_1 x0_2 x1_0 x1_1 x1_2 x1_3 x1_4 y2 At1 n2 ct1 Xt1 m2 dt1 Dt10 k2a gt10 Dt11 k2b gt11 Dt12 k2c gt12 l2 _ (RdC.ext t1.c.rd (by repeat (first | with_reducible assumption | with_reducible exact Ext.refl _ | with_reducible apply Ext.alloc | with_reducible apply Ext.drew | with_reducible apply Ext.drewN))) t1.c.len t1.c.le).mono ?_
              rintro en wk6 ⟨hen, hbk6⟩
              rw [HX.out, HZ.out] at hen; subst hen
              have hxk6 := Ext.trans (w := w1) (by repeat (first | with_reducible assumption | with_reducible exact Ext.refl _ | with_reducible apply Ext.alloc | with_reducible apply Ext.drew | with_reducible apply Ext.drewN)) hbk6
              replace BN := BN.ext (Ext.trans (by repeat (first | with_reducible assumption | with_reducible exact Ext.refl _ | with_reducible apply Ext.alloc | with_reducible apply Ext.drew | with_reducible apply Ext.drewN)) hbk6)
              replace t1 := t1.ext (Ext.trans (by repeat (first | with_reducible assumption | with_reducible exact Ext.refl _ | with_reducible apply Ext.alloc | with_reducible apply Ext.drew | with_reducible apply Ext.drewN)) hbk6)
              refine hKK.out _ _ ?_ (fun hHeld => ?_)
              · exact hS _ (by repeat (first | with_reducible assumption | with_reducible exact Ext.refl _ | with_reducible apply Ext.alloc | with_reducible apply Ext.drew | with_reducible apply Ext.drewN))
              clear hKK KK
              try simp only [Act.put, List.setIfInBounds_toArray, List.set_cons_zero, List.set_cons_succ]
              refine' wpAnyL_take (i := 7) (v := _) ?hi7 (by kernel_rfl) (by kernel_rfl) (by kernel_rfl) [11] (by kernel_rfl) ?hQ7 ?hy7 (by assumption) ?_
              case hi7 => (simp only [List.getElem?_toArray, List.getElem?_cons_succ, List.getElem?_cons_zero]; rfl)
              case hy7 => refine Or.inl ⟨by rfl, ?_⟩; intro w hSw; (try dsimp only at hSw); go_simp <;> with_reducible rfl
              case hQ7 => exact fun _ _ _ h => h
              try simp only [Act.put, List.setIfInBounds_toArray, List.set_cons_zero, List.set_cons_succ]
              refine' wpAnyL_take (i := 8) (v := _) ?hi8 (by kernel_rfl) (by kernel_rfl) (by kernel_rfl) [11] (by kernel_rfl) ?hQ8 ?hy8 (by assumption) ?_
              case hi8 => (simp only [List.getElem?_toArray, List.getElem?_cons_succ, List.getElem?_cons_zero]; rfl)
              case hy8 => refine Or.inl ⟨by rfl, ?_⟩; intro w hSw; (try dsimp only at hSw); go_simp <;> with_reducible rfl
              case hQ8 => exact fun _ _ _ h => h
              try simp only [Act.put, List.setIfInBounds_toArray, List.set_cons_zero, List.set_cons_succ]
              refine' wpAnyL_takeP (i := 9) (v := _) ?hi9 (by kernel_rfl) (by kernel_rfl) (by kernel_rfl) (by kernel_rfl) ?hQ9 ?hy9 (by assumption) ?_
              case hi9 => (simp only [List.getElem?_toArray, List.getElem?_cons_succ, List.getElem?_cons_zero]; rfl)
              case hy9 => refine Or.inl ⟨by rfl, ?_⟩; intro w; go_simp <;> with_reducible rfl
              case hQ9 => exact fun _ _ _ h => h
              try simp only [Act.put, List.setIfInBounds_toArray, List.set_cons_zero, List.set_cons_succ]
              refine wpAnyL_ready (rs := [11]) (by kernel_rfl) (by simp) ?_
              refine AllReadyL.last rfl (by kernel_rfl) (fun KK hKK => ?_) ?_
              · have FN := BN.frozen
                have CN := BN.cells
                go_simp
                refine hKK.out _ _ ?_
                clear hKK KK
                try simp only [Act.put, List.setIfInBounds_toArray, List.set_cons_zero, List.set_cons_succ]
                refine' wpAny_take (i := 12) (v := _) ?hi12 (by kernel_rfl) (by kernel_rfl) (by kernel_rfl) ?hQ12 ?hy12 ?_
                case hi12 => (simp only [List.getElem?_toArray, List.getElem?_cons_succ, List.getElem?_cons_zero]; rfl)
                case hy12 => refine Or.inl ⟨by rfl, ?_⟩; intro w; go_simp <;> with_reducible rfl
                case hQ12 => exact fun _ _ _ h => h
                try simp only [Act.put, List.setIfInBounds_toArray, List.set_cons_zero, List.set_cons_succ]
                refine wpAny_done (by kernel_rfl) ?_ _
                go_wp2
                go_meet
                exact ⟨_, rfl, rfl, ((BN.set_ 0 (.int .i64 z0)).set_ 1 (.int .i64 z1)), HGN, (Ext.setCell (Ext.setCell (Ext.trans (w := w1) (by repeat (first | with_reducible assumption | with_reducible exact Ext.refl _ | with_reducible apply Ext.alloc | with_reducible apply Ext.drew | with_reducible apply Ext.drewN)) (Ext.refl wk6)) (p := ⟨_, 0, none⟩) HGN (.int .i64 z0)) (p := ⟨_, 1, none⟩) HGN (.int .i64 z1))⟩
              exact AllReadyL.nil
            exact AllReadyL.nil
          exact AllReadyL.nil
        exact AllReadyL.nil
      refine AllReadyL.cons rfl (by kernel_rfl) (fun KK hKK => ?_) ?_
      · go_simp
        have BN := Blk.new wk1 35 #[.int .i64 0, .int .i64 0]
        have HGN : w1.heap.size ≤ wk1.heap.size := hxk1.size
        refine hKK.out _ _ ?_ (fun hHeld => ?_)
        · exact hS _ (by repeat (first | with_reducible assumption | with_reducible exact Ext.refl _ | with_reducible apply Ext.alloc | with_reducible apply Ext.drew | with_reducible apply Ext.drewN))
        clear hKK KK
        try simp only [Act.put, List.setIfInBounds_toArray, List.set_cons_zero, List.set_cons_succ]
        refine wpAnyL_ready (rs := [3]) (by kernel_rfl) (by simp) ?_
        refine AllReadyL.cons rfl (by kernel_rfl) (fun KK hKK => ?_) ?_
        · go_simp
          go_at_call 10
          refine (toContest_any x1_0 x1_1 x1_2 x1_3 x1_4 _).mono ?_
          rintro en wk3 ⟨rfl, hbk3⟩
          have hxk3 := Ext.trans (w := w1) (by repeat (first | with_reducible assumption | with_reducible exact Ext.refl _ | with_reducible apply Ext.alloc | with_reducible apply Ext.drew | with_reducible apply Ext.drewN)) hbk3
          replace BN := BN.ext (Ext.trans (by repeat (first | with_reducible assumption | with_reducible exact Ext.refl _ | with_reducible apply Ext.alloc | with_reducible apply Ext.drew | with_reducible apply Ext.drewN)) hbk3)
          refine hKK.out _ _ ?_ (fun hHeld => ?_)
          · exact hS _ (by repeat (first | with_reducible assumption | with_reducible exact Ext.refl _ | with_reducible apply Ext.alloc | with_reducible apply Ext.drew | with_reducible apply Ext.drewN))
          clear hKK KK
          try simp only [Act.put, List.setIfInBounds_toArray, List.set_cons_zero, List.set_cons_succ]
          refine wpAnyL_ready (rs := [5]) (by kernel_rfl) (by simp) ?_
          refine AllReadyL.cons rfl (by kernel_rfl) (fun KK hKK => ?_) ?_
          · go_simp
            go_at_call 11
            refine (toSealed_any y2 A2 n2 c2 Z2 m2 d2 C2a k2a f2a C2b k2b f2b C2c k2c f2c l2 p2 l2a l2b l2c _ (RdC.ext ra2 (E.trans (by repeat (first | with_reducible assumption | with_reducible exact Ext.refl _ | with_reducible apply Ext.alloc | with_reducible apply Ext.drew | with_reducible apply Ext.drewN)))) Hn2.out (RdP.ext rq2 (E.trans (by repeat (first | with_reducible assumption | with_reducible exact Ext.refl _ | with_reducible apply Ext.alloc | with_reducible apply Ext.drew | with_reducible apply Ext.drewN)))) Hm2.out (SlI.ext s2a (E.trans (by repeat (first | with_reducible assumption | with_reducible exact Ext.refl _ | with_reducible apply Ext.alloc | with_reducible apply Ext.drew | with_reducible apply Ext.drewN)))) (SlI.ext s2b (E.trans (by repeat (first | with_reducible assumption | with_reducible exact Ext.refl _ | with_reducible apply Ext.alloc | with_reducible apply Ext.drew | with_reducible apply Ext.drewN)))) (SlI.ext s2c (E.trans (by repeat (first | with_reducible assumption | with_reducible exact Ext.refl _ | with_reducible apply Ext.alloc | with_reducible apply Ext.drew | with_reducible apply Ext.drewN)))) (by omega)).mono ?_
            rintro en wk5 ⟨At1, ct1, Xt1, dt1, Pt1, Dt10, gt10, Dt11, gt11, Dt12, gt12, rfl, t1, hbk5⟩
            have hxk5 := Ext.trans (w := w1) (by repeat (first | with_reducible assumption | with_reducible exact Ext.refl _ | with_reducible apply Ext.alloc | with_reducible apply Ext.drew | with_reducible apply Ext.drewN)) hbk5
            replace BN := BN.ext (Ext.trans (by repeat (first | with_reducible assumption | with_reducible exact Ext.refl _ | with_reducible apply Ext.alloc | with_reducible apply Ext.drew | with_reducible apply Ext.drewN)) hbk5)
            refine hKK.out _ _ ?_ (fun hHeld => ?_)
            · exact hS _ (by repeat (first | with_reducible assumption | with_reducible exact Ext.refl _ | with_reducible apply Ext.alloc | with_reducible apply Ext.drew | with_reducible apply Ext.drewN))
            clear hKK KK
            try simp only [Act.put, List.setIfInBounds_toArray, List.set_cons_zero, List.set_cons_succ]
            refine wpAnyL_ready (rs := [6]) (by kernel_rfl) (by simp) ?_
            refine AllReadyL.cons rfl (by kernel_rfl) (fun KK hKK => ?_) ?_
            · go_simp
              go_at_call 8
              refine (sMixCipher_any x0_0 x0_1 x0_2 x1_0 x1_1 x1_2 x1_3 x1_4 y2 At1 n2 ct1 Xt1 m2 dt1 Dt10 k2a gt10 Dt11 k2b gt11 Dt12 k2c gt12 l2 _ (RdC.ext t1.c.rd (by repeat (first | with_reducible assumption | with_reducible exact Ext.refl _ | with_reducible apply Ext.alloc | with_reducible apply Ext.drew | with_reducible apply Ext.drewN))) t1.c.len t1.c.le).mono ?_
              rintro en wk6 ⟨hen, hbk6⟩
              rw [HX.out, HZ.out] at hen; subst hen
              have hxk6 := Ext.trans (w := w1) (by repeat (first | with_reducible assumption | with_reducible exact Ext.refl _ | with_reducible apply Ext.alloc | with_reducible apply Ext.drew | with_reducible apply Ext.drewN)) hbk6
              replace BN := BN.ext (Ext.trans (by repeat (first | with_reducible assumption | with_reducible exact Ext.refl _ | with_reducible apply Ext.alloc | with_reducible apply Ext.drew | with_reducible apply Ext.drewN)) hbk6)
              replace t1 := t1.ext (Ext.trans (by repeat (first | with_reducible assumption | with_reducible exact Ext.refl _ | with_reducible apply Ext.alloc | with_reducible apply Ext.drew | with_reducible apply Ext.drewN)) hbk6)
              refine hKK.out _ _ ?_ (fun hHeld => ?_)
              · exact hS _ (by repeat (first | with_reducible assumption | with_reducible exact Ext.refl _ | with_reducible apply Ext.alloc | with_reducible apply Ext.drew | with_reducible apply Ext.drewN))
              clear hKK KK
              try simp only [Act.put, List.setIfInBounds_toArray, List.set_cons_zero, List.set_cons_succ]
              refine' wpAnyL_take (i := 7) (v := _) ?hi7 (by kernel_rfl) (by kernel_rfl) (by kernel_rfl) [11] (by kernel_rfl) ?hQ7 ?hy7 (by assumption) ?_
              case hi7 => (simp only [List.getElem?_toArray, List.getElem?_cons_succ, List.getElem?_cons_zero]; rfl)
              case hy7 => refine Or.inl ⟨by rfl, ?_⟩; intro w hSw; (try dsimp only at hSw); go_simp <;> with_reducible rfl
              case hQ7 => exact fun _ _ _ h => h
              try simp only [Act.put, List.setIfInBounds_toArray, List.set_cons_zero, List.set_cons_succ]
              refine' wpAnyL_take (i := 8) (v := _) ?hi8 (by kernel_rfl) (by kernel_rfl) (by kernel_rfl) [11] (by kernel_rfl) ?hQ8 ?hy8 (by assumption) ?_
              case hi8 => (simp only [List.getElem?_toArray, List.getElem?_cons_succ, List.getElem?_cons_zero]; rfl)
              case hy8 => refine Or.inl ⟨by rfl, ?_⟩; intro w hSw; (try dsimp only at hSw); go_simp <;> with_reducible rfl
              case hQ8 => exact fun _ _ _ h => h
              try simp only [Act.put, List.setIfInBounds_toArray, List.set_cons_zero, List.set_cons_succ]
              refine' wpAnyL_takeP (i := 9) (v := _) ?hi9 (by kernel_rfl) (by kernel_rfl) (by kernel_rfl) (by kernel_rfl) ?hQ9 ?hy9 (by assumption) ?_
              case hi9 => (simp only [List.getElem?_toArray, List.getElem?_cons_succ, List.getElem?_cons_zero]; rfl)
              case hy9 => refine Or.inl ⟨by rfl, ?_⟩; intro w; go_simp <;> with_reducible rfl
              case hQ9 => exact fun _ _ _ h => h
              try simp only [Act.put, List.setIfInBounds_toArray, List.set_cons_zero, List.set_cons_succ]
              refine wpAnyL_ready (rs := [11]) (by kernel_rfl) (by simp) ?_
              refine AllReadyL.last rfl (by kernel_rfl) (fun KK hKK => ?_) ?_
              · have FN := BN.frozen
                have CN := BN.cells
                go_simp
                refine hKK.out _ _ ?_
                clear hKK KK
                try simp only [Act.put, List.setIfInBounds_toArray, List.set_cons_zero, List.set_cons_succ]
                refine' wpAny_take (i := 12) (v := _) ?hi12 (by kernel_rfl) (by kernel_rfl) (by kernel_rfl) ?hQ12 ?hy12 ?_
                case hi12 => (simp only [List.getElem?_toArray, List.getElem?_cons_succ, List.getElem?_cons_zero]; rfl)
                case hy12 => refine Or.inl ⟨by rfl, ?_⟩; intro w; go_simp <;> with_reducible rfl
                case hQ12 => exact fun _ _ _ h => h
                try simp only [Act.put, List.setIfInBounds_toArray, List.set_cons_zero, List.set_cons_succ]
                refine wpAny_done (by kernel_rfl) ?_ _
                go_wp2
                go_meet
                exact ⟨_, rfl, rfl, ((BN.set_ 0 (.int .i64 z0)).set_ 1 (.int .i64 z1)), HGN, (Ext.setCell (Ext.setCell (Ext.trans (w := w1) (by repeat (first | with_reducible assumption | with_reducible exact Ext.refl _ | with_reducible apply Ext.alloc | with_reducible apply Ext.drew | with_reducible apply Ext.drewN)) (Ext.refl wk6)) (p := ⟨_, 0, none⟩) HGN (.int .i64 z0)) (p := ⟨_, 1, none⟩) HGN (.int .i64 z1))⟩
              exact AllReadyL.nil
            exact AllReadyL.nil
          exact AllReadyL.nil
        exact AllReadyL.nil
      exact AllReadyL.nil
    refine AllReadyL.cons rfl (by kernel_rfl) (fun KK hKK => ?_) ?_
    · go_simp
      have BN := Blk.new w1 35 #[.int .i64 0, .int .i64 0]
      have HGN : w1.heap.size ≤ w1.heap.size := Nat.le_refl _
      refine hKK.out _ _ ?_ (fun hHeld => ?_)
      · exact hS _ (by repeat (first | with_reducible assumption | with_reducible exact Ext.refl _ | with_reducible apply Ext.alloc | with_reducible apply Ext.drew | with_reducible apply Ext.drewN))
      clear hKK KK
      try simp only [Act.put, List.setIfInBounds_toArray, List.set_cons_zero, List.set_cons_succ]
      refine wpAnyL_ready (rs := [1]) (by kernel_rfl) (by simp) ?_
      refine AllReadyL.cons rfl (by kernel_rfl) (fun KK hKK => ?_) ?_
      · go_simp
        go_at_call 9
        refine (toGroup_any x0_0 x0_1 x0_2 _).mono ?_
        rintro en wk1 ⟨rfl, hbk1⟩
        have hxk1 := Ext.trans (w := w1) (by repeat (first | with_reducible assumption | with_reducible exact Ext.refl _ | with_reducible apply Ext.alloc | with_reducible apply Ext.drew | with_reducible apply Ext.drewN)) hbk1
        replace BN := BN.ext (Ext.trans (by repeat (first | with_reducible assumption | with_reducible exact Ext.refl _ | with_reducible apply Ext.alloc | with_reducible apply Ext.drew | with_reducible apply Ext.drewN)) hbk1)
        refine hKK.out _ _ ?_ (fun hHeld => ?_)
        · exact hS _ (by repeat (first | with_reducible assumption | with_reducible exact Ext.refl _ | with_reducible apply Ext.alloc | with_reducible apply Ext.drew | with_reducible apply Ext.drewN))
        clear hKK KK
        try simp only [Act.put, List.setIfInBounds_toArray, List.set_cons_zero, List.set_cons_succ]
        refine wpAnyL_ready (rs := [3]) (by kernel_rfl) (by simp) ?_
        refine AllReadyL.cons rfl (by kernel_rfl) (fun KK hKK => ?_) ?_
        · go_simp
          go_at_call 10
          refine (toContest_any x1_0 x1_1 x1_2 x1_3 x1_4 _).mono ?_
          rintro en wk3 ⟨rfl, hbk3⟩
          have hxk3 := Ext.trans (w := w1) (by repeat (first | with_reducible assumption | with_reducible exact Ext.refl _ | with_reducible apply Ext.alloc | with_reducible apply Ext.drew | with_reducible apply Ext.drewN)) hbk3
          replace BN := BN.ext (Ext.trans (by repeat (first | with_reducible assumption | with_reducible exact Ext.refl _ | with_reducible apply Ext.alloc | with_reducible apply Ext.drew | with_reducible apply Ext.drewN)) hbk3)
          refine hKK.out _ _ ?_ (fun hHeld => ?_)
          · exact hS _ (by repeat (first | with_reducible assumption | with_reducible exact Ext.refl _ | with_reducible apply Ext.alloc | with_reducible apply Ext.drew | with_reducible apply Ext.drewN))
          clear hKK KK
          try simp only [Act.put, List.setIfInBounds_toArray, List.set_cons_zero, List.set_cons_succ]
          refine wpAnyL_ready (rs := [5]) (by kernel_rfl) (by simp) ?_
          refine AllReadyL.cons rfl (by kernel_rfl) (fun KK hKK => ?_) ?_
          · go_simp
            go_at_call 11
            refine (toSealed_any y2 A2 n2 c2 Z2 m2 d2 C2a k2a f2a C2b k2b f2b C2c k2c f2c l2 p2 l2a l2b l2c _ (RdC.ext ra2 (E.trans (by repeat (first | with_reducible assumption | with_reducible exact Ext.refl _ | with_reducible apply Ext.alloc | with_reducible apply Ext.drew | with_reducible apply Ext.drewN)))) Hn2.out (RdP.ext rq2 (E.trans (by repeat (first | with_reducible assumption | with_reducible exact Ext.refl _ | with_reducible apply Ext.alloc | with_reducible apply Ext.drew | with_reducible apply Ext.drewN)))) Hm2.out (SlI.ext s2a (E.trans (by repeat (first | with_reducible assumption | with_reducible exact Ext.refl _ | with_reducible apply Ext.alloc | with_reducible apply Ext.drew | with_reducible apply Ext.drewN)))) (SlI.ext s2b (E.trans (by repeat (first | with_reducible assumption | with_reducible exact Ext.refl _ | with_reducible apply Ext.alloc | with_reducible apply Ext.drew | with_reducible apply Ext.drewN)))) (SlI.ext s2c (E.trans (by repeat (first | with_reducible assumption | with_reducible exact Ext.refl _ | with_reducible apply Ext.alloc | with_reducible apply Ext.drew | with_reducible apply Ext.drewN)))) (by omega)).mono ?_
            rintro en wk5 ⟨At1, ct1, Xt1, dt1, Pt1, Dt10, gt10, Dt11, gt11, Dt12, gt12, rfl, t1, hbk5⟩
            have hxk5 := Ext.trans (w := w1) (by repeat (first | with_reducible assumption | with_reducible exact Ext.refl _ | with_reducible apply Ext.alloc | with_reducible apply Ext.drew | with_reducible apply Ext.drewN)) hbk5
            replace BN := BN.ext (Ext.trans (by repeat (first | with_reducible assumption | with_reducible exact Ext.refl _ | with_reducible apply Ext.alloc | with_reducible apply Ext.drew | with_reducible apply Ext.drewN)) hbk5)
            refine hKK.out _ _ ?_ (fun hHeld => ?_)
            · exact hS _ (by repeat (first | with_reducible assumption | with_reducible exact Ext.refl _ | with_reducible apply Ext.alloc | with_reducible apply Ext.drew | with_reducible apply Ext.drewN))
            clear hKK KK
            try simp only [Act.put, List.setIfInBounds_toArray, List.set_cons_zero, List.set_cons_succ]
            refine wpAnyL_ready (rs := [6]) (by kernel_rfl) (by simp) ?_
            refine AllReadyL.cons rfl (by kernel_rfl) (fun KK hKK => ?_) ?_
            · go_simp
              go_at_call 8
              refine (sMixCipher_any x0_0 x0_1 x0_2 x1_0 x1_1 x1_2 x1_3 x1_4 y2 At1 n2 ct1 Xt1 m2 dt1 Dt10 k2a gt10 Dt11 k2b gt11 Dt12 k2c gt12 l2 _ (RdC.ext t1.c.rd (by repeat (first | with_reducible assumption | with_reducible exact Ext.refl _ | with_reducible apply Ext.alloc | with_reducible apply Ext.drew | with_reducible apply Ext.drewN))) t1.c.len t1.c.le).mono ?_
              rintro en wk6 ⟨hen, hbk6⟩
              rw [HX.out, HZ.out] at hen; subst hen
              have hxk6 := Ext.trans (w := w1) (by repeat (first | with_reducible assumption | with_reducible exact Ext.refl _ | with_reducible apply Ext.alloc | with_reducible apply Ext.drew | with_reducible apply Ext.drewN)) hbk6
              replace BN := BN.ext (Ext.trans (by repeat (first | with_reducible assumption | with_reducible exact Ext.refl _ | with_reducible apply Ext.alloc | with_reducible apply Ext.drew | with_reducible apply Ext.drewN)) hbk6)
              replace t1 := t1.ext (Ext.trans (by repeat (first | with_reducible assumption | with_reducible exact Ext.refl _ | with_reducible apply Ext.alloc | with_reducible apply Ext.drew | with_reducible apply Ext.drewN)) hbk6)
              refine hKK.out _ _ ?_ (fun hHeld => ?_)
              · exact hS _ (by repeat (first | with_reducible assumption | with_reducible exact Ext.refl _ | with_reducible apply Ext.alloc | with_reducible apply Ext.drew | with_reducible apply Ext.drewN))
              clear hKK KK
              try simp only [Act.put, List.setIfInBounds_toArray, List.set_cons_zero, List.set_cons_succ]
              refine' wpAnyL_take (i := 7) (v := _) ?hi7 (by kernel_rfl) (by kernel_rfl) (by kernel_rfl) [11] (by kernel_rfl) ?hQ7 ?hy7 (by assumption) ?_
              case hi7 => (simp only [List.getElem?_toArray, List.getElem?_cons_succ, List.getElem?_cons_zero]; rfl)
              case hy7 => refine Or.inl ⟨by rfl, ?_⟩; intro w hSw; (try dsimp only at hSw); go_simp <;> with_reducible rfl
              case hQ7 => exact fun _ _ _ h => h
              try simp only [Act.put, List.setIfInBounds_toArray, List.set_cons_zero, List.set_cons_succ]
              refine' wpAnyL_take (i := 8) (v := _) ?hi8 (by kernel_rfl) (by kernel_rfl) (by kernel_rfl) [11] (by kernel_rfl) ?hQ8 ?hy8 (by assumption) ?_
              case hi8 => (simp only [List.getElem?_toArray, List.getElem?_cons_succ, List.getElem?_cons_zero]; rfl)
              case hy8 => refine Or.inl ⟨by rfl, ?_⟩; intro w hSw; (try dsimp only at hSw); go_simp <;> with_reducible rfl
              case hQ8 => exact fun _ _ _ h => h
              try simp only [Act.put, List.setIfInBounds_toArray, List.set_cons_zero, List.set_cons_succ]
              refine' wpAnyL_takeP (i := 9) (v := _) ?hi9 (by kernel_rfl) (by kernel_rfl) (by kernel_rfl) (by kernel_rfl) ?hQ9 ?hy9 (by assumption) ?_
              case hi9 => (simp only [List.getElem?_toArray, List.getElem?_cons_succ, List.getElem?_cons_zero]; rfl)
              case hy9 => refine Or.inl ⟨by rfl, ?_⟩; intro w; go_simp <;> with_reducible rfl
              case hQ9 => exact fun _ _ _ h => h
              try simp only [Act.put, List.setIfInBounds_toArray, List.set_cons_zero, List.set_cons_succ]
              refine wpAnyL_ready (rs := [11]) (by kernel_rfl) (by simp) ?_
              refine AllReadyL.last rfl (by kernel_rfl) (fun KK hKK => ?_) ?_
              · have FN := BN.frozen
                have CN := BN.cells
                go_simp
                refine hKK.out _ _ ?_
                clear hKK KK
                try simp only [Act.put, List.setIfInBounds_toArray, List.set_cons_zero, List.set_cons_succ]
                refine' wpAny_take (i := 12) (v := _) ?hi12 (by kernel_rfl) (by kernel_rfl) (by kernel_rfl) ?hQ12 ?hy12 ?_
                case hi12 => (simp only [List.getElem?_toArray, List.getElem?_cons_succ, List.getElem?_cons_zero]; rfl)
                case hy12 => refine Or.inl ⟨by rfl, ?_⟩; intro w; go_simp <;> with_reducible rfl
                case hQ12 => exact fun _ _ _ h => h
                try simp only [Act.put, List.setIfInBounds_toArray, List.set_cons_zero, List.set_cons_succ]
                refine wpAny_done (by kernel_rfl) ?_ _
                go_wp2
                go_meet
                exact ⟨_, rfl, rfl, ((BN.set_ 0 (.int .i64 z0)).set_ 1 (.int .i64 z1)), HGN, (Ext.setCell (Ext.setCell (Ext.trans (w := w1) (by repeat (first | with_reducible assumption | with_reducible exact Ext.refl _ | with_reducible apply Ext.alloc | with_reducible apply Ext.drew | with_reducible apply Ext.drewN)) (Ext.refl wk6)) (p := ⟨_, 0, none⟩) HGN (.int .i64 z0)) (p := ⟨_, 1, none⟩) HGN (.int .i64 z1))⟩
              exact AllReadyL.nil
            exact AllReadyL.nil
          exact AllReadyL.nil
        exact AllReadyL.nil
      exact AllReadyL.nil
    exact AllReadyL.nil
  case' rest =>
  obtain ⟨gw0, rfl, rfl, Bw0, Gw0, hb⟩ := hcut
  replace E := E.trans hb
  replace B0 := B0.ext hb
  replace B1 := B1.ext hb
  replace B2 := B2.ext hb
  clear hb hS
  generalize wc = w2 at *
  have CC0 := B0.cells
  have CC1 := B1.cells
  have CC2 := B2.cells
  have CCw0 := Bw0.cells
  go_wp2_with fail
  have LB0_x2 := B0.lt
  have LB1_x2 := B1.lt
  have LB2_x2 := B2.lt
  have LBw0_x2 := Bw0.lt
  have Zx2 := E.size
  refine (toSealed_any y2 A2 n2 c2 Z2 m2 d2 C2a k2a f2a C2b k2b f2b C2c k2c f2c l2 p2 l2a l2b l2c _ (RdC.ext ra2 (E.trans (Ext.refl _))) Hn2.out (RdP.ext rq2 (E.trans (Ext.refl _))) Hm2.out (SlI.ext s2a (E.trans (Ext.refl _))) (SlI.ext s2b (E.trans (Ext.refl _))) (SlI.ext s2c (E.trans (Ext.refl _))) (by omega)).mono ?_
  rintro en w3 ⟨Ax2, cx2, Xx2, dx2, Px2, Dx20, gx20, Dx21, gx21, Dx22, gx22, rfl, x2, hb⟩
  clear CC0 CC1 CC2 CCw0
  replace E := E.trans hb
  replace B0 := B0.ext hb
  replace B1 := B1.ext hb
  replace B2 := B2.ext hb
  replace Bw0 := Bw0.ext hb
  clear hb
  have CC0 := B0.cells
  have CC1 := B1.cells
  have CC2 := B2.cells
  have CCw0 := Bw0.cells
  go_wp2_with fail
  clear CC0 CC1 CC2 CCw0
  have hb := (Ext.refl w3).alloc (.cells #[.int .i64 y2, .slice Ax2 n2 cx2, .slice Xx2 m2 dx2, .slice Dx20 k2a gx20, .slice Dx21 k2b gx21, .slice Dx22 k2c gx22] 46)
  replace E := E.trans hb
  replace B0 := B0.ext hb
  replace B1 := B1.ext hb
  replace B2 := B2.ext hb
  replace Bw0 := Bw0.ext hb
  replace x2 := x2.ext hb
  have Bx2x := Blk.new w3 46 #[.int .i64 y2, .slice Ax2 n2 cx2, .slice Xx2 m2 dx2, .slice Dx20 k2a gx20, .slice Dx21 k2b gx21, .slice Dx22 k2c gx22]
  generalize hgx2 : w3.heap.size = gx2 at *
  clear hgx2 hb
  generalize w3.alloc (.cells #[.int .i64 y2, .slice Ax2 n2 cx2, .slice Xx2 m2 dx2, .slice Dx20 k2a gx20, .slice Dx21 k2b gx21, .slice Dx22 k2c gx22] 46) = w4 at *
  have hS : ∀ V, Ext w4 V → V.cell? ⟨w.heap.size, 0, none⟩ = some (.int .i64 x0_0) ∧ V.cell? ⟨w.heap.size, 1, none⟩ = some (.int .i64 x0_1) ∧ V.cell? ⟨w.heap.size, 2, none⟩ = some (.int .i64 x0_2) ∧ V.cell? ⟨w.heap.size + 1, 0, none⟩ = some (.int .i64 x1_0) ∧ V.cell? ⟨w.heap.size + 1, 1, none⟩ = some (.int .i64 x1_1) ∧ V.cell? ⟨w.heap.size + 1, 2, none⟩ = some (.int .i64 x1_2) ∧ V.cell? ⟨w.heap.size + 1, 3, none⟩ = some (.int .i64 x1_3) ∧ V.cell? ⟨w.heap.size + 1, 4, none⟩ = some (.int .i64 x1_4) ∧ V.cell? ⟨w.heap.size + 1 + 1, 0, none⟩ = some (.int .i64 y2) ∧ V.cell? ⟨w.heap.size + 1 + 1, 1, none⟩ = some (.slice A2 n2 c2) ∧ V.cell? ⟨w.heap.size + 1 + 1, 2, none⟩ = some (.slice Z2 m2 d2) ∧ V.cell? ⟨w.heap.size + 1 + 1, 3, none⟩ = some (.slice C2a k2a f2a) ∧ V.cell? ⟨w.heap.size + 1 + 1, 4, none⟩ = some (.slice C2b k2b f2b) ∧ V.cell? ⟨w.heap.size + 1 + 1, 5, none⟩ = some (.slice C2c k2c f2c) ∧ V.cell? ⟨gw0, 0, none⟩ = some (.int .i64 z0) ∧ V.cell? ⟨gw0, 1, none⟩ = some (.int .i64 z1) ∧ V.cell? ⟨gx2, 0, none⟩ = some (.int .i64 y2) ∧ V.cell? ⟨gx2, 1, none⟩ = some (.slice Ax2 n2 cx2) ∧ V.cell? ⟨gx2, 2, none⟩ = some (.slice Xx2 m2 dx2) ∧ V.cell? ⟨gx2, 3, none⟩ = some (.slice Dx20 k2a gx20) ∧ V.cell? ⟨gx2, 4, none⟩ = some (.slice Dx21 k2b gx21) ∧ V.cell? ⟨gx2, 5, none⟩ = some (.slice Dx22 k2c gx22) := fun V hV => by
    have a0 := (B0.ext hV).cells
    have a1 := (B1.ext hV).cells
    have a2 := (B2.ext hV).cells
    have aw0 := (Bw0.ext hV).cells
    have ax2x := (Bx2x.ext hV).cells
    exact ⟨a0 0, a0 1, a0 2, a1 0, a1 1, a1 2, a1 3, a1 4, a2 0, a2 1, a2 2, a2 3, a2 4, a2 5, aw0 0, aw0 1, ax2x 0, ax2x 1, ax2x 2, ax2x 3, ax2x 4, ax2x 5⟩
  go_cut [11, 12] from 30 to 38 (fun c0 c1 wx => ∃ gk, c0 = .pointer (some ⟨gk, 0, none⟩) ∧ c1 = .bool zb ∧ Blk wx gk 35 #[.int .i64 z0, .int .i64 z1] ∧ w4.heap.size ≤ gk ∧ Ext w4 wx)
  case first =>
    refine wp_region_heldL (S := fun V => V.cell? ⟨w.heap.size, 0, none⟩ = some (.int .i64 x0_0) ∧ V.cell? ⟨w.heap.size, 1, none⟩ = some (.int .i64 x0_1) ∧ V.cell? ⟨w.heap.size, 2, none⟩ = some (.int .i64 x0_2) ∧ V.cell? ⟨w.heap.size + 1, 0, none⟩ = some (.int .i64 x1_0) ∧ V.cell? ⟨w.heap.size + 1, 1, none⟩ = some (.int .i64 x1_1) ∧ V.cell? ⟨w.heap.size + 1, 2, none⟩ = some (.int .i64 x1_2) ∧ V.cell? ⟨w.heap.size + 1, 3, none⟩ = some (.int .i64 x1_3) ∧ V.cell? ⟨w.heap.size + 1, 4, none⟩ = some (.int .i64 x1_4) ∧ V.cell? ⟨w.heap.size + 1 + 1, 0, none⟩ = some (.int .i64 y2) ∧ V.cell? ⟨w.heap.size + 1 + 1, 1, none⟩ = some (.slice A2 n2 c2) ∧ V.cell? ⟨w.heap.size + 1 + 1, 2, none⟩ = some (.slice Z2 m2 d2) ∧ V.cell? ⟨w.heap.size + 1 + 1, 3, none⟩ = some (.slice C2a k2a f2a) ∧ V.cell? ⟨w.heap.size + 1 + 1, 4, none⟩ = some (.slice C2b k2b f2b) ∧ V.cell? ⟨w.heap.size + 1 + 1, 5, none⟩ = some (.slice C2c k2c f2c) ∧ V.cell? ⟨gw0, 0, none⟩ = some (.int .i64 z0) ∧ V.cell? ⟨gw0, 1, none⟩ = some (.int .i64 z1) ∧ V.cell? ⟨gx2, 0, none⟩ = some (.int .i64 y2) ∧ V.cell? ⟨gx2, 1, none⟩ = some (.slice Ax2 n2 cx2) ∧ V.cell? ⟨gx2, 2, none⟩ = some (.slice Xx2 m2 dx2) ∧ V.cell? ⟨gx2, 3, none⟩ = some (.slice Dx20 k2a gx20) ∧ V.cell? ⟨gx2, 4, none⟩ = some (.slice Dx21 k2b gx21) ∧ V.cell? ⟨gx2, 5, none⟩ = some (.slice Dx22 k2c gx22)) 10 (by kernel_rfl) ?_ (fun hHeld => ?_)
    · exact hS _ (by repeat (first | with_reducible assumption | with_reducible exact Ext.refl _ | with_reducible apply Ext.alloc | with_reducible apply Ext.drew | with_reducible apply Ext.drewN))
    refine' wpAnyL_take (i := 0) (v := _) ?hi0 (by kernel_rfl) (by kernel_rfl) (by kernel_rfl) [10] (by kernel_rfl) ?hQ0 ?hy0 (by assumption) ?_
    case hi0 => (simp only [List.getElem?_toArray, List.getElem?_cons_zero]; rfl)
    case hy0 => refine Or.inl ⟨by rfl, ?_⟩; intro w hSw; (try dsimp only at hSw); go_simp <;> with_reducible rfl
    case hQ0 => exact fun _ _ _ h => h
    try simp only [Act.put, List.setIfInBounds_toArray, List.set_cons_zero, List.set_cons_succ]
    refine' wpAnyL_take (i := 2) (v := _) ?hi2 (by kernel_rfl) (by kernel_rfl) (by kernel_rfl) [10] (by kernel_rfl) ?hQ2 ?hy2 (by assumption) ?_
    case hi2 => (simp only [List.getElem?_toArray, List.getElem?_cons_succ, List.getElem?_cons_zero]; rfl)
    case hy2 => refine Or.inl ⟨by rfl, ?_⟩; intro w hSw; (try dsimp only at hSw); go_simp <;> with_reducible rfl
    case hQ2 => exact fun _ _ _ h => h
    try simp only [Act.put, List.setIfInBounds_toArray, List.set_cons_zero, List.set_cons_succ]
    refine' wpAnyL_take (i := 4) (v := _) ?hi4 (by kernel_rfl) (by kernel_rfl) (by kernel_rfl) [10] (by kernel_rfl) ?hQ4 ?hy4 (by assumption) ?_
    case hi4 => (simp only [List.getElem?_toArray, List.getElem?_cons_succ, List.getElem?_cons_zero]; rfl)
    case hy4 => refine Or.inl ⟨by rfl, ?_⟩; intro w hSw; (try dsimp only at hSw); go_simp <;> with_reducible rfl
    case hQ4 => exact fun _ _ _ h => h
    try simp only [Act.put, List.setIfInBounds_toArray, List.set_cons_zero, List.set_cons_succ]
    refine wpAnyL_ready (rs := [1, 9]) (by kernel_rfl) (by simp) ?_
    refine AllReadyL.cons rfl (by kernel_rfl) (fun KK hKK => ?_) ?_
    · go_simp
      go_at_call 9
      refine (toGroup_any x0_0 x0_1 x0_2 _).mono ?_
      rintro en wk1 ⟨rfl, hbk1⟩
      have hxk1 := Ext.trans (w := w4) (by repeat (first | with_reducible assumption | with_reducible exact Ext.refl _ | with_reducible apply Ext.alloc | with_reducible apply Ext.drew | with_reducible apply Ext.drewN)) hbk1
      refine hKK.out _ _ ?_ (fun hHeld => ?_)
      · exact hS _ (by repeat (first | with_reducible assumption | with_reducible exact Ext.refl _ | with_reducible apply Ext.alloc | with_reducible apply Ext.drew | with_reducible apply Ext.drewN))
      clear hKK KK
      try simp only [Act.put, List.setIfInBounds_toArray, List.set_cons_zero, List.set_cons_succ]
      refine wpAnyL_ready (rs := [3, 9]) (by kernel_rfl) (by simp) ?_
      refine AllReadyL.cons rfl (by kernel_rfl) (fun KK hKK => ?_) ?_
      · go_simp
        go_at_call 10
        refine (toContest_any x1_0 x1_1 x1_2 x1_3 x1_4 _).mono ?_
        rintro en wk3 ⟨rfl, hbk3⟩
        have hxk3 := Ext.trans (w := w4) (by repeat (first | with_reducible assumption | with_reducible exact Ext.refl _ | with_reducible apply Ext.alloc | with_reducible apply Ext.drew | with_reducible apply Ext.drewN)) hbk3
        refine hKK.out _ _ ?_ (fun hHeld => ?_)
        · exact hS _ (by repeat (first | with_reducible assumption | with_reducible exact Ext.refl _ | with_reducible apply Ext.alloc | with_reducible apply Ext.drew | with_reducible apply Ext.drewN))
        clear hKK KK
        try simp only [Act.put, List.setIfInBounds_toArray, List.set_cons_zero, List.set_cons_succ]
        refine wpAnyL_ready (rs := [5, 9]) (by kernel_rfl) (by simp) ?_
        refine AllReadyL.cons rfl (by kernel_rfl) (fun KK hKK => ?_) ?_
        · go_simp
          go_at_call 12
          refine (iMixCipher_any x0_0 x0_1 x0_2 x1_0 x1_1 x1_2 x1_3 x1_4 y2 Ax2 n2 cx2 Xx2 m2 dx2 Dx20 k2a gx20 Dx21 k2b gx21 Dx22 k2c gx22 l2 _ (RdC.ext x2.c.rd (by repeat (first | with_reducible assumption | with_reducible exact Ext.refl _ | with_reducible apply Ext.alloc | with_reducible apply Ext.drew | with_reducible apply Ext.drewN))) x2.c.len x2.c.le).mono ?_
          rintro en wk5 ⟨hen, hbk5⟩
          rw [HX.out, HZ.out] at hen; subst hen
          have hxk5 := Ext.trans (w := w4) (by repeat (first | with_reducible assumption | with_reducible exact Ext.refl _ | with_reducible apply Ext.alloc | with_reducible apply Ext.drew | with_reducible apply Ext.drewN)) hbk5
          refine hKK.out _ _ ?_ (fun hHeld => ?_)
          · exact hS _ (by repeat (first | with_reducible assumption | with_reducible exact Ext.refl _ | with_reducible apply Ext.alloc | with_reducible apply Ext.drew | with_reducible apply Ext.drewN))
          clear hKK KK
          try simp only [Act.put, List.setIfInBounds_toArray, List.set_cons_zero, List.set_cons_succ]
          refine' wpAnyL_take (i := 6) (v := _) ?hi6 (by kernel_rfl) (by kernel_rfl) (by kernel_rfl) [10] (by kernel_rfl) ?hQ6 ?hy6 (by assumption) ?_
          case hi6 => (simp only [List.getElem?_toArray, List.getElem?_cons_succ, List.getElem?_cons_zero]; rfl)
          case hy6 => refine Or.inl ⟨by rfl, ?_⟩; intro w hSw; (try dsimp only at hSw); go_simp <;> with_reducible rfl
          case hQ6 => exact fun _ _ _ h => h
          try simp only [Act.put, List.setIfInBounds_toArray, List.set_cons_zero, List.set_cons_succ]
          refine' wpAnyL_take (i := 7) (v := _) ?hi7 (by kernel_rfl) (by kernel_rfl) (by kernel_rfl) [10] (by kernel_rfl) ?hQ7 ?hy7 (by assumption) ?_
          case hi7 => (simp only [List.getElem?_toArray, List.getElem?_cons_succ, List.getElem?_cons_zero]; rfl)
          case hy7 => refine Or.inl ⟨by rfl, ?_⟩; intro w hSw; (try dsimp only at hSw); go_simp <;> with_reducible rfl
          case hQ7 => exact fun _ _ _ h => h
          try simp only [Act.put, List.setIfInBounds_toArray, List.set_cons_zero, List.set_cons_succ]
          refine' wpAnyL_takeP (i := 8) (v := _) ?hi8 (by kernel_rfl) (by kernel_rfl) (by kernel_rfl) (by kernel_rfl) ?hQ8 ?hy8 (by assumption) ?_
          case hi8 => (simp only [List.getElem?_toArray, List.getElem?_cons_succ, List.getElem?_cons_zero]; rfl)
          case hy8 => refine Or.inl ⟨by rfl, ?_⟩; intro w; go_simp <;> with_reducible rfl
          case hQ8 => exact fun _ _ _ h => h
          try simp only [Act.put, List.setIfInBounds_toArray, List.set_cons_zero, List.set_cons_succ]
          refine wpAnyL_ready (rs := [9]) (by kernel_rfl) (by simp) ?_
          refine AllReadyL.cons rfl (by kernel_rfl) (fun KK hKK => ?_) ?_
          · go_simp
            have BN := Blk.new wk5 35 #[.int .i64 0, .int .i64 0]
            have HGN : w4.heap.size ≤ wk5.heap.size := hxk5.size
            refine hKK.out _ _ ?_ (fun hHeld => ?_)
            · exact hS _ (by repeat (first | with_reducible assumption | with_reducible exact Ext.refl _ | with_reducible apply Ext.alloc | with_reducible apply Ext.drew | with_reducible apply Ext.drewN))
            clear hKK KK
            try simp only [Act.put, List.setIfInBounds_toArray, List.set_cons_zero, List.set_cons_succ]
            refine wpAnyL_ready (rs := [10]) (by kernel_rfl) (by simp) ?_
            refine AllReadyL.last rfl (by kernel_rfl) (fun KK hKK => ?_) ?_
            · have FN := BN.frozen
              have CN := BN.cells
              go_simp
              refine hKK.out _ _ ?_
              clear hKK KK
              try simp only [Act.put, List.setIfInBounds_toArray, List.set_cons_zero, List.set_cons_succ]
              refine' wpAny_take (i := 11) (v := _) ?hi11 (by kernel_rfl) (by kernel_rfl) (by kernel_rfl) ?hQ11 ?hy11 ?_
              case hi11 => (simp only [List.getElem?_toArray, List.getElem?_cons_succ, List.getElem?_cons_zero]; rfl)
              case hy11 => refine Or.inl ⟨by rfl, ?_⟩; intro w; go_simp <;> with_reducible rfl
              case hQ11 => exact fun _ _ _ h => h
              try simp only [Act.put, List.setIfInBounds_toArray, List.set_cons_zero, List.set_cons_succ]
              refine wpAny_done (by kernel_rfl) ?_ _
              go_wp2
              go_meet
              exact ⟨_, rfl, rfl, Blk.new wk5 35 #[.int .i64 z0, .int .i64 z1], hxk5.size, Ext.alloc (Ext.trans (w := w4) (by repeat (first | with_reducible assumption | with_reducible exact Ext.refl _ | with_reducible apply Ext.alloc | with_reducible apply Ext.drew | with_reducible apply Ext.drewN)) (Ext.refl wk5)) _⟩
            exact AllReadyL.nil
          exact AllReadyL.nil
        refine AllReadyL.cons rfl (by kernel_rfl) (fun KK hKK => ?_) ?_
        · go_simp
          have BN := Blk.new wk3 35 #[.int .i64 0, .int .i64 0]
          have HGN : w4.heap.size ≤ wk3.heap.size := hxk3.size
          refine hKK.out _ _ ?_ (fun hHeld => ?_)
          · exact hS _ (by repeat (first | with_reducible assumption | with_reducible exact Ext.refl _ | with_reducible apply Ext.alloc | with_reducible apply Ext.drew | with_reducible apply Ext.drewN))
          clear hKK KK
          try simp only [Act.put, List.setIfInBounds_toArray, List.set_cons_zero, List.set_cons_succ]
          refine wpAnyL_ready (rs := [5]) (by kernel_rfl) (by simp) ?_
          refine AllReadyL.cons rfl (by kernel_rfl) (fun KK hKK => ?_) ?_
          · go_simp
            go_at_call 12
            refine (iMixCipher_any x0_0 x0_1 x0_2 x1_0 x1_1 x1_2 x1_3 x1_4 y2 Ax2 n2 cx2 Xx2 m2 dx2 Dx20 k2a gx20 Dx21 k2b gx21 Dx22 k2c gx22 l2 _ (RdC.ext x2.c.rd (by repeat (first | with_reducible assumption | with_reducible exact Ext.refl _ | with_reducible apply Ext.alloc | with_reducible apply Ext.drew | with_reducible apply Ext.drewN))) x2.c.len x2.c.le).mono ?_
            rintro en wk5 ⟨hen, hbk5⟩
            rw [HX.out, HZ.out] at hen; subst hen
            have hxk5 := Ext.trans (w := w4) (by repeat (first | with_reducible assumption | with_reducible exact Ext.refl _ | with_reducible apply Ext.alloc | with_reducible apply Ext.drew | with_reducible apply Ext.drewN)) hbk5
            replace BN := BN.ext (Ext.trans (by repeat (first | with_reducible assumption | with_reducible exact Ext.refl _ | with_reducible apply Ext.alloc | with_reducible apply Ext.drew | with_reducible apply Ext.drewN)) hbk5)
            refine hKK.out _ _ ?_ (fun hHeld => ?_)
            · exact hS _ (by repeat (first | with_reducible assumption | with_reducible exact Ext.refl _ | with_reducible apply Ext.alloc | with_reducible apply Ext.drew | with_reducible apply Ext.drewN))
            clear hKK KK
            try simp only [Act.put, List.setIfInBounds_toArray, List.set_cons_zero, List.set_cons_succ]
            refine' wpAnyL_take (i := 6) (v := _) ?hi6 (by kernel_rfl) (by kernel_rfl) (by kernel_rfl) [10] (by kernel_rfl) ?hQ6 ?hy6 (by assumption) ?_
            case hi6 => (simp only [List.getElem?_toArray, List.getElem?_cons_succ, List.getElem?_cons_zero]; rfl)
            case hy6 => refine Or.inl ⟨by rfl, ?_⟩; intro w hSw; (try dsimp only at hSw); go_simp <;> with_reducible rfl
            case hQ6 => exact fun _ _ _ h => h
            try simp only [Act.put, List.setIfInBounds_toArray, List.set_cons_zero, List.set_cons_succ]
            refine' wpAnyL_take (i := 7) (v := _) ?hi7 (by kernel_rfl) (by kernel_rfl) (by kernel_rfl) [10] (by kernel_rfl) ?hQ7 ?hy7 (by assumption) ?_
            case hi7 => (simp only [List.getElem?_toArray, List.getElem?_cons_succ, List.getElem?_cons_zero]; rfl)
            case hy7 => refine Or.inl ⟨by rfl, ?_⟩; intro w hSw; (try dsimp only at hSw); go_simp <;> with_reducible rfl
            case hQ7 => exact fun _ _ _ h => h
            try simp only [Act.put, List.setIfInBounds_toArray, List.set_cons_zero, List.set_cons_succ]
            refine' wpAnyL_takeP (i := 8) (v := _) ?hi8 (by kernel_rfl) (by kernel_rfl) (by kernel_rfl) (by kernel_rfl) ?hQ8 ?hy8 (by assumption) ?_
            case hi8 => (simp only [List.getElem?_toArray, List.getElem?_cons_succ, List.getElem?_cons_zero]; rfl)
            case hy8 => refine Or.inl ⟨by rfl, ?_⟩; intro w; go_simp <;> with_reducible rfl
            case hQ8 => exact fun _ _ _ h => h
            try simp only [Act.put, List.setIfInBounds_toArray, List.set_cons_zero, List.set_cons_succ]
            refine wpAnyL_ready (rs := [10]) (by kernel_rfl) (by simp) ?_
            refine AllReadyL.last rfl (by kernel_rfl) (fun KK hKK => ?_) ?_
            · have FN := BN.frozen
              have CN := BN.cells
              go_simp
              refine hKK.out _ _ ?_
              clear hKK KK
              try simp only [Act.put, List.setIfInBounds_toArray, List.set_cons_zero, List.set_cons_succ]
              refine' wpAny_take (i := 11) (v := _) ?hi11 (by kernel_rfl) (by kernel_rfl) (by kernel_rfl) ?hQ11 ?hy11 ?_
              case hi11 => (simp only [List.getElem?_toArray, List.getElem?_cons_succ, List.getElem?_cons_zero]; rfl)
              case hy11 => refine Or.inl ⟨by rfl, ?_⟩; intro w; go_simp <;> with_reducible rfl
              case hQ11 => exact fun _ _ _ h => h
              try simp only [Act.put, List.setIfInBounds_toArray, List.set_cons_zero, List.set_cons_succ]
              refine wpAny_done (by kernel_rfl) ?_ _
              go_wp2
              go_meet
              exact ⟨_, rfl, rfl, ((BN.set_ 0 (.int .i64 z0)).set_ 1 (.int .i64 z1)), HGN, (Ext.setCell (Ext.setCell (Ext.trans (w := w4) (by repeat (first | with_reducible assumption | with_reducible exact Ext.refl _ | with_reducible apply Ext.alloc | with_reducible apply Ext.drew | with_reducible apply Ext.drewN)) (Ext.refl wk5)) (p := ⟨_, 0, none⟩) HGN (.int .i64 z0)) (p := ⟨_, 1, none⟩) HGN (.int .i64 z1))⟩
            exact AllReadyL.nil
          exact AllReadyL.nil
        exact AllReadyL.nil
      refine AllReadyL.cons rfl (by kernel_rfl) (fun KK hKK => ?_) ?_
      · go_simp
        have BN := Blk.new wk1 35 #[.int .i64 0, .int .i64 0]
        have HGN : w4.heap.size ≤ wk1.heap.size := hxk1.size
        refine hKK.out _ _ ?_ (fun hHeld => ?_)
        · exact hS _ (by repeat (first | with_reducible assumption | with_reducible exact Ext.refl _ | with_reducible apply Ext.alloc | with_reducible apply Ext.drew | with_reducible apply Ext.drewN))
        clear hKK KK
        try simp only [Act.put, List.setIfInBounds_toArray, List.set_cons_zero, List.set_cons_succ]
        refine wpAnyL_ready (rs := [3]) (by kernel_rfl) (by simp) ?_
        refine AllReadyL.cons rfl (by kernel_rfl) (fun KK hKK => ?_) ?_
        · go_simp
          go_at_call 10
          refine (toContest_any x1_0 x1_1 x1_2 x1_3 x1_4 _).mono ?_
          rintro en wk3 ⟨rfl, hbk3⟩
          have hxk3 := Ext.trans (w := w4) (by repeat (first | with_reducible assumption | with_reducible exact Ext.refl _ | with_reducible apply Ext.alloc | with_reducible apply Ext.drew | with_reducible apply Ext.drewN)) hbk3
          replace BN := BN.ext (Ext.trans (by repeat (first | with_reducible assumption | with_reducible exact Ext.refl _ | with_reducible apply Ext.alloc | with_reducible apply Ext.drew | with_reducible apply Ext.drewN)) hbk3)
          refine hKK.out _ _ ?_ (fun hHeld => ?_)
          · exact hS _ (by repeat (first | with_reducible assumption | with_reducible exact Ext.refl _ | with_reducible apply Ext.alloc | with_reducible apply Ext.drew | with_reducible apply Ext.drewN))
          clear hKK KK
          try simp only [Act.put, List.setIfInBounds_toArray, List.set_cons_zero, List.set_cons_succ]
          refine wpAnyL_ready (rs := [5]) (by kernel_rfl) (by simp) ?_
          refine AllReadyL.cons rfl (by kernel_rfl) (fun KK hKK => ?_) ?_
          · go_simp
            go_at_call 12
            refine (iMixCipher_any x0_0 x0_1 x0_2 x1_0 x1_1 x1_2 x1_3 x1_4 y2 Ax2 n2 cx2 Xx2 m2 dx2 Dx20 k2a gx20 Dx21 k2b gx21 Dx22 k2c gx22 l2 _ (RdC.ext x2.c.rd (by repeat (first | with_reducible assumption | with_reducible exact Ext.refl _ | with_reducible apply Ext.alloc | with_reducible apply Ext.drew | with_reducible apply Ext.drewN))) x2.c.len x2.c.le).mono ?_
            rintro en wk5 ⟨hen, hbk5⟩
            rw [HX.out, HZ.out] at hen; subst hen
            have hxk5 := Ext.trans (w := w4) (by repeat (first | with_reducible assumption | with_reducible exact Ext.refl _ | with_reducible apply Ext.alloc | with_reducible apply Ext.drew | with_reducible apply Ext.drewN)) hbk5
            replace BN := BN.ext (Ext.trans (by repeat (first | with_reducible assumption | with_reducible exact Ext.refl _ | with_reducible apply Ext.alloc | with_reducible apply Ext.drew | with_reducible apply Ext.drewN)) hbk5)
            refine hKK.out _ _ ?_ (fun hHeld => ?_)
            · exact hS _ (by repeat (first | with_reducible assumption | with_reducible exact Ext.refl _ | with_reducible apply Ext.alloc | with_reducible apply Ext.drew | with_reducible apply Ext.drewN))
            clear hKK KK
            try simp only [Act.put, List.setIfInBounds_toArray, List.set_cons_zero, List.set_cons_succ]
            refine' wpAnyL_take (i := 6) (v := _) ?hi6 (by kernel_rfl) (by kernel_rfl) (by kernel_rfl) [10] (by kernel_rfl) ?hQ6 ?hy6 (by assumption) ?_
            case hi6 => (simp only [List.getElem?_toArray, List.getElem?_cons_succ, List.getElem?_cons_zero]; rfl)
            case hy6 => refine Or.inl ⟨by rfl, ?_⟩; intro w hSw; (try dsimp only at hSw); go_simp <;> with_reducible rfl
            case hQ6 => exact fun _ _ _ h => h
            try simp only [Act.put, List.setIfInBounds_toArray, List.set_cons_zero, List.set_cons_succ]
            refine' wpAnyL_take (i := 7) (v := _) ?hi7 (by kernel_rfl) (by kernel_rfl) (by kernel_rfl) [10] (by kernel_rfl) ?hQ7 ?hy7 (by assumption) ?_
            case hi7 => (simp only [List.getElem?_toArray, List.getElem?_cons_succ, List.getElem?_cons_zero]; rfl)
            case hy7 => refine Or.inl ⟨by rfl, ?_⟩; intro w hSw; (try dsimp only at hSw); go_simp <;> with_reducible rfl
            case hQ7 => exact fun _ _ _ h => h
            try simp only [Act.put, List.setIfInBounds_toArray, List.set_cons_zero, List.set_cons_succ]
            refine' wpAnyL_takeP (i := 8) (v := _) ?hi8 (by kernel_rfl) (by kernel_rfl) (by kernel_rfl) (by kernel_rfl) ?hQ8 ?hy8 (by assumption) ?_
            case hi8 => (simp only [List.getElem?_toArray, List.getElem?_cons_succ, List.getElem?_cons_zero]; rfl)
            case hy8 => refine Or.inl ⟨by rfl, ?_⟩; intro w; go_simp <;> with_reducible rfl
            case hQ8 => exact fun _ _ _ h => h
            try simp only [Act.put, List.setIfInBounds_toArray, List.set_cons_zero, List.set_cons_succ]
            refine wpAnyL_ready (rs := [10]) (by kernel_rfl) (by simp) ?_
            refine AllReadyL.last rfl (by kernel_rfl) (fun KK hKK => ?_) ?_
            · have FN := BN.frozen
              have CN := BN.cells
              go_simp
              refine hKK.out _ _ ?_
              clear hKK KK
              try simp only [Act.put, List.setIfInBounds_toArray, List.set_cons_zero, List.set_cons_succ]
              refine' wpAny_take (i := 11) (v := _) ?hi11 (by kernel_rfl) (by kernel_rfl) (by kernel_rfl) ?hQ11 ?hy11 ?_
              case hi11 => (simp only [List.getElem?_toArray, List.getElem?_cons_succ, List.getElem?_cons_zero]; rfl)
              case hy11 => refine Or.inl ⟨by rfl, ?_⟩; intro w; go_simp <;> with_reducible rfl
              case hQ11 => exact fun _ _ _ h => h
              try simp only [Act.put, List.setIfInBounds_toArray, List.set_cons_zero, List.set_cons_succ]
              refine wpAny_done (by kernel_rfl) ?_ _
              go_wp2
              go_meet
              exact ⟨_, rfl, rfl, ((BN.set_ 0 (.int .i64 z0)).set_ 1 (.int .i64 z1)), HGN, (Ext.setCell (Ext.setCell (Ext.trans (w := w4) (by repeat (first | with_reducible assumption | with_reducible exact Ext.refl _ | with_reducible apply Ext.alloc | with_reducible apply Ext.drew | with_reducible apply Ext.drewN)) (Ext.refl wk5)) (p := ⟨_, 0, none⟩) HGN (.int .i64 z0)) (p := ⟨_, 1, none⟩) HGN (.int .i64 z1))⟩
            exact AllReadyL.nil
          exact AllReadyL.nil
        exact AllReadyL.nil
      exact AllReadyL.nil
    refine AllReadyL.cons rfl (by kernel_rfl) (fun KK hKK => ?_) ?_
    · go_simp
      have BN := Blk.new w4 35 #[.int .i64 0, .int .i64 0]
      have HGN : w4.heap.size ≤ w4.heap.size := Nat.le_refl _
      refine hKK.out _ _ ?_ (fun hHeld => ?_)
      · exact hS _ (by repeat (first | with_reducible assumption | with_reducible exact Ext.refl _ | with_reducible apply Ext.alloc | with_reducible apply Ext.drew | with_reducible apply Ext.drewN))
      clear hKK KK
      try simp only [Act.put, List.setIfInBounds_toArray, List.set_cons_zero, List.set_cons_succ]
      refine wpAnyL_ready (rs := [1]) (by kernel_rfl) (by simp) ?_
      refine AllReadyL.cons rfl (by kernel_rfl) (fun KK hKK => ?_) ?_
      · go_simp
        go_at_call 9
        refine (toGroup_any x0_0 x0_1 x0_2 _).mono ?_
        rintro en wk1 ⟨rfl, hbk1⟩
        have hxk1 := Ext.trans (w := w4) (by repeat (first | with_reducible assumption | with_reducible exact Ext.refl _ | with_reducible apply Ext.alloc | with_reducible apply Ext.drew | with_reducible apply Ext.drewN)) hbk1
        replace BN := BN.ext (Ext.trans (by repeat (first | with_reducible assumption | with_reducible exact Ext.refl _ | with_reducible apply Ext.alloc | with_reducible apply Ext.drew | with_reducible apply Ext.drewN)) hbk1)
        refine hKK.out _ _ ?_ (fun hHeld => ?_)
        · exact hS _ (by repeat (first | with_reducible assumption | with_reducible exact Ext.refl _ | with_reducible apply Ext.alloc | with_reducible apply Ext.drew | with_reducible apply Ext.drewN))
        clear hKK KK
        try simp only [Act.put, List.setIfInBounds_toArray, List.set_cons_zero, List.set_cons_succ]
        refine wpAnyL_ready (rs := [3]) (by kernel_rfl) (by simp) ?_
        refine AllReadyL.cons rfl (by kernel_rfl) (fun KK hKK => ?_) ?_
        · go_simp
          go_at_call 10
          refine (toContest_any x1_0 x1_1 x1_2 x1_3 x1_4 _).mono ?_
          rintro en wk3 ⟨rfl, hbk3⟩
          have hxk3 := Ext.trans (w := w4) (by repeat (first | with_reducible assumption | with_reducible exact Ext.refl _ | with_reducible apply Ext.alloc | with_reducible apply Ext.drew | with_reducible apply Ext.drewN)) hbk3
          replace BN := BN.ext (Ext.trans (by repeat (first | with_reducible assumption | with_reducible exact Ext.refl _ | with_reducible apply Ext.alloc | with_reducible apply Ext.drew | with_reducible apply Ext.drewN)) hbk3)
          refine hKK.out _ _ ?_ (fun hHeld => ?_)
          · exact hS _ (by repeat (first | with_reducible assumption | with_reducible exact Ext.refl _ | with_reducible apply Ext.alloc | with_reducible apply Ext.drew | with_reducible apply Ext.drewN))
          clear hKK KK
          try simp only [Act.put, List.setIfInBounds_toArray, List.set_cons_zero, List.set_cons_succ]
          refine wpAnyL_ready (rs := [5]) (by kernel_rfl) (by simp) ?_
          refine AllReadyL.cons rfl (by kernel_rfl) (fun KK hKK => ?_) ?_
          · go_simp
            go_at_call 12
            refine (iMixCipher_any x0_0 x0_1 x0_2 x1_0 x1_1 x1_2 x1_3 x1_4 y2 Ax2 n2 cx2 Xx2 m2 dx2 Dx20 k2a gx20 Dx21 k2b gx21 Dx22 k2c gx22 l2 _ (RdC.ext x2.c.rd (by repeat (first | with_reducible assumption | with_reducible exact Ext.refl _ | with_reducible apply Ext.alloc | with_reducible apply Ext.drew | with_reducible apply Ext.drewN))) x2.c.len x2.c.le).mono ?_
            rintro en wk5 ⟨hen, hbk5⟩
            rw [HX.out, HZ.out] at hen; subst hen
            have hxk5 := Ext.trans (w := w4) (by repeat (first | with_reducible assumption | with_reducible exact Ext.refl _ | with_reducible apply Ext.alloc | with_reducible apply Ext.drew | with_reducible apply Ext.drewN)) hbk5
            replace BN := BN.ext (Ext.trans (by repeat (first | with_reducible assumption | with_reducible exact Ext.refl _ | with_reducible apply Ext.alloc | with_reducible apply Ext.drew | with_reducible apply Ext.drewN)) hbk5)
            refine hKK.out _ _ ?_ (fun hHeld => ?_)
            · exact hS _ (by repeat (first | with_reducible assumption | with_reducible exact Ext.refl _ | with_reducible apply Ext.alloc | with_reducible apply Ext.drew | with_reducible apply Ext.drewN))
            clear hKK KK
            try simp only [Act.put, List.setIfInBounds_toArray, List.set_cons_zero, List.set_cons_succ]
            refine' wpAnyL_take (i := 6) (v := _) ?hi6 (by kernel_rfl) (by kernel_rfl) (by kernel_rfl) [10] (by kernel_rfl) ?hQ6 ?hy6 (by assumption) ?_
            case hi6 => (simp only [List.getElem?_toArray, List.getElem?_cons_succ, List.getElem?_cons_zero]; rfl)
            case hy6 => refine Or.inl ⟨by rfl, ?_⟩; intro w hSw; (try dsimp only at hSw); go_simp <;> with_reducible rfl
            case hQ6 => exact fun _ _ _ h => h
            try simp only [Act.put, List.setIfInBounds_toArray, List.set_cons_zero, List.set_cons_succ]
            refine' wpAnyL_take (i := 7) (v := _) ?hi7 (by kernel_rfl) (by kernel_rfl) (by kernel_rfl) [10] (by kernel_rfl) ?hQ7 ?hy7 (by assumption) ?_
            case hi7 => (simp only [List.getElem?_toArray, List.getElem?_cons_succ, List.getElem?_cons_zero]; rfl)
            case hy7 => refine Or.inl ⟨by rfl, ?_⟩; intro w hSw; (try dsimp only at hSw); go_simp <;> with_reducible rfl
            case hQ7 => exact fun _ _ _ h => h
            try simp only [Act.put, List.setIfInBounds_toArray, List.set_cons_zero, List.set_cons_succ]
            refine' wpAnyL_takeP (i := 8) (v := _) ?hi8 (by kernel_rfl) (by kernel_rfl) (by kernel_rfl) (by kernel_rfl) ?hQ8 ?hy8 (by assumption) ?_
            case hi8 => (simp only [List.getElem?_toArray, List.getElem?_cons_succ, List.getElem?_cons_zero]; rfl)
            case hy8 => refine Or.inl ⟨by rfl, ?_⟩; intro w; go_simp <;> with_reducible rfl
            case hQ8 => exact fun _ _ _ h => h
            try simp only [Act.put, List.setIfInBounds_toArray, List.set_cons_zero, List.set_cons_succ]
            refine wpAnyL_ready (rs := [10]) (by kernel_rfl) (by simp) ?_
            refine AllReadyL.last rfl (by kernel_rfl) (fun KK hKK => ?_) ?_
            · have FN := BN.frozen
              have CN := BN.cells
              go_simp
              refine hKK.out _ _ ?_
              clear hKK KK
              try simp only [Act.put, List.setIfInBounds_toArray, List.set_cons_zero, List.set_cons_succ]
              refine' wpAny_take (i := 11) (v := _) ?hi11 (by kernel_rfl) (by kernel_rfl) (by kernel_rfl) ?hQ11 ?hy11 ?_
              case hi11 => (simp only [List.getElem?_toArray, List.getElem?_cons_succ, List.getElem?_cons_zero]; rfl)
              case hy11 => refine Or.inl ⟨by rfl, ?_⟩; intro w; go_simp <;> with_reducible rfl
              case hQ11 => exact fun _ _ _ h => h
              try simp only [Act.put, List.setIfInBounds_toArray, List.set_cons_zero, List.set_cons_succ]
              refine wpAny_done (by kernel_rfl) ?_ _
              go_wp2
              go_meet
              exact ⟨_, rfl, rfl, ((BN.set_ 0 (.int .i64 z0)).set_ 1 (.int .i64 z1)), HGN, (Ext.setCell (Ext.setCell (Ext.trans (w := w4) (by repeat (first | with_reducible assumption | with_reducible exact Ext.refl _ | with_reducible apply Ext.alloc | with_reducible apply Ext.drew | with_reducible apply Ext.drewN)) (Ext.refl wk5)) (p := ⟨_, 0, none⟩) HGN (.int .i64 z0)) (p := ⟨_, 1, none⟩) HGN (.int .i64 z1))⟩
            exact AllReadyL.nil
          exact AllReadyL.nil
        exact AllReadyL.nil
      exact AllReadyL.nil
    exact AllReadyL.nil
  case' rest =>
  obtain ⟨gg0, rfl, rfl, Bg0, Gg0, hb⟩ := hcut
  replace E := E.trans hb
  replace B0 := B0.ext hb
  replace B1 := B1.ext hb
  replace B2 := B2.ext hb
  replace Bw0 := Bw0.ext hb
  replace Bx2x := Bx2x.ext hb
  replace x2 := x2.ext hb
  clear hb hS
  generalize wc = w5 at *
  have CC0 := B0.cells
  have CC1 := B1.cells
  have CC2 := B2.cells
  have CCw0 := Bw0.cells
  have CCx2x := Bx2x.cells
  have CCg0 := Bg0.cells
  go_wp2_with fail
  refine (eqCipher_sameE _ _ _).mono ?_
  rintro en w6 ⟨rfl, hb⟩
  clear CC0 CC1 CC2 CCw0 CCx2x CCg0
  replace E := E.trans hb
  replace B0 := B0.ext hb
  replace B1 := B1.ext hb
  replace B2 := B2.ext hb
  replace Bw0 := Bw0.ext hb
  replace Bx2x := Bx2x.ext hb
  replace Bg0 := Bg0.ext hb
  replace x2 := x2.ext hb
  clear hb
  go_wp2_with fail
  have hS : ∀ V, Ext w6 V → V.cell? ⟨w.heap.size, 0, none⟩ = some (.int .i64 x0_0) ∧ V.cell? ⟨w.heap.size, 1, none⟩ = some (.int .i64 x0_1) ∧ V.cell? ⟨w.heap.size, 2, none⟩ = some (.int .i64 x0_2) ∧ V.cell? ⟨w.heap.size + 1, 0, none⟩ = some (.int .i64 x1_0) ∧ V.cell? ⟨w.heap.size + 1, 1, none⟩ = some (.int .i64 x1_1) ∧ V.cell? ⟨w.heap.size + 1, 2, none⟩ = some (.int .i64 x1_2) ∧ V.cell? ⟨w.heap.size + 1, 3, none⟩ = some (.int .i64 x1_3) ∧ V.cell? ⟨w.heap.size + 1, 4, none⟩ = some (.int .i64 x1_4) ∧ V.cell? ⟨w.heap.size + 1 + 1, 0, none⟩ = some (.int .i64 y2) ∧ V.cell? ⟨w.heap.size + 1 + 1, 1, none⟩ = some (.slice A2 n2 c2) ∧ V.cell? ⟨w.heap.size + 1 + 1, 2, none⟩ = some (.slice Z2 m2 d2) ∧ V.cell? ⟨w.heap.size + 1 + 1, 3, none⟩ = some (.slice C2a k2a f2a) ∧ V.cell? ⟨w.heap.size + 1 + 1, 4, none⟩ = some (.slice C2b k2b f2b) ∧ V.cell? ⟨w.heap.size + 1 + 1, 5, none⟩ = some (.slice C2c k2c f2c) ∧ V.cell? ⟨gw0, 0, none⟩ = some (.int .i64 z0) ∧ V.cell? ⟨gw0, 1, none⟩ = some (.int .i64 z1) ∧ V.cell? ⟨gx2, 0, none⟩ = some (.int .i64 y2) ∧ V.cell? ⟨gx2, 1, none⟩ = some (.slice Ax2 n2 cx2) ∧ V.cell? ⟨gx2, 2, none⟩ = some (.slice Xx2 m2 dx2) ∧ V.cell? ⟨gx2, 3, none⟩ = some (.slice Dx20 k2a gx20) ∧ V.cell? ⟨gx2, 4, none⟩ = some (.slice Dx21 k2b gx21) ∧ V.cell? ⟨gx2, 5, none⟩ = some (.slice Dx22 k2c gx22) ∧ V.cell? ⟨gg0, 0, none⟩ = some (.int .i64 z0) ∧ V.cell? ⟨gg0, 1, none⟩ = some (.int .i64 z1) := fun V hV => by
    have a0 := (B0.ext hV).cells
    have a1 := (B1.ext hV).cells
    have a2 := (B2.ext hV).cells
    have aw0 := (Bw0.ext hV).cells
    have ax2x := (Bx2x.ext hV).cells
    have ag0 := (Bg0.ext hV).cells
    exact ⟨a0 0, a0 1, a0 2, a1 0, a1 1, a1 2, a1 3, a1 4, a2 0, a2 1, a2 2, a2 3, a2 4, a2 5, aw0 0, aw0 1, ax2x 0, ax2x 1, ax2x 2, ax2x 3, ax2x 4, ax2x 5, ag0 0, ag0 1⟩
  go_cut [52] from 48 to 52 (fun c0 wx => c0 = .bool false ∧ Ext w6 wx)
  case first =>
    refine wp_region_held_drew (S := fun V => V.cell? ⟨w.heap.size, 0, none⟩ = some (.int .i64 x0_0) ∧ V.cell? ⟨w.heap.size, 1, none⟩ = some (.int .i64 x0_1) ∧ V.cell? ⟨w.heap.size, 2, none⟩ = some (.int .i64 x0_2) ∧ V.cell? ⟨w.heap.size + 1, 0, none⟩ = some (.int .i64 x1_0) ∧ V.cell? ⟨w.heap.size + 1, 1, none⟩ = some (.int .i64 x1_1) ∧ V.cell? ⟨w.heap.size + 1, 2, none⟩ = some (.int .i64 x1_2) ∧ V.cell? ⟨w.heap.size + 1, 3, none⟩ = some (.int .i64 x1_3) ∧ V.cell? ⟨w.heap.size + 1, 4, none⟩ = some (.int .i64 x1_4) ∧ V.cell? ⟨w.heap.size + 1 + 1, 0, none⟩ = some (.int .i64 y2) ∧ V.cell? ⟨w.heap.size + 1 + 1, 1, none⟩ = some (.slice A2 n2 c2) ∧ V.cell? ⟨w.heap.size + 1 + 1, 2, none⟩ = some (.slice Z2 m2 d2) ∧ V.cell? ⟨w.heap.size + 1 + 1, 3, none⟩ = some (.slice C2a k2a f2a) ∧ V.cell? ⟨w.heap.size + 1 + 1, 4, none⟩ = some (.slice C2b k2b f2b) ∧ V.cell? ⟨w.heap.size + 1 + 1, 5, none⟩ = some (.slice C2c k2c f2c) ∧ V.cell? ⟨gw0, 0, none⟩ = some (.int .i64 z0) ∧ V.cell? ⟨gw0, 1, none⟩ = some (.int .i64 z1) ∧ V.cell? ⟨gx2, 0, none⟩ = some (.int .i64 y2) ∧ V.cell? ⟨gx2, 1, none⟩ = some (.slice Ax2 n2 cx2) ∧ V.cell? ⟨gx2, 2, none⟩ = some (.slice Xx2 m2 dx2) ∧ V.cell? ⟨gx2, 3, none⟩ = some (.slice Dx20 k2a gx20) ∧ V.cell? ⟨gx2, 4, none⟩ = some (.slice Dx21 k2b gx21) ∧ V.cell? ⟨gx2, 5, none⟩ = some (.slice Dx22 k2c gx22) ∧ V.cell? ⟨gg0, 0, none⟩ = some (.int .i64 z0) ∧ V.cell? ⟨gg0, 1, none⟩ = some (.int .i64 z1)) (by kernel_rfl) ?_ (fun hHeld => ?_)
    · exact hS _ (by repeat (first | with_reducible assumption | with_reducible exact Ext.refl _ | with_reducible apply Ext.alloc | with_reducible apply Ext.drew | with_reducible apply Ext.drewN))
    refine' wpAnyH_take (i := 0) (v := _) ?hi0 (by kernel_rfl) (by kernel_rfl) (by kernel_rfl) ?hQ0 ?hy0 (by assumption) ?_
    case hi0 => (simp only [List.getElem?_toArray, List.getElem?_cons_zero]; rfl)
    case hy0 => refine Or.inl ⟨by rfl, ?_⟩; intro w hSw; (try dsimp only at hSw); go_simp <;> with_reducible rfl
    case hQ0 => exact fun _ _ _ h => h
    try simp only [Act.put, List.setIfInBounds_toArray, List.set_cons_zero, List.set_cons_succ]
    refine' wpAnyH_take (i := 1) (v := _) ?hi1 (by kernel_rfl) (by kernel_rfl) (by kernel_rfl) ?hQ1 ?hy1 (by assumption) ?_
    case hi1 => (simp only [List.getElem?_toArray, List.getElem?_cons_succ, List.getElem?_cons_zero]; rfl)
    case hy1 => refine Or.inl ⟨by rfl, ?_⟩; intro w hSw; (try dsimp only at hSw); go_simp <;> with_reducible rfl
    case hQ1 => exact fun _ _ _ h => h
    try simp only [Act.put, List.setIfInBounds_toArray, List.set_cons_zero, List.set_cons_succ]
    refine wpAnyH_ready (rs := [2]) (by kernel_rfl) (by simp) ?_
    refine AllReadyH.cons rfl (fun KK hKK => ?_) ?_
    · go_simp
      go_at_call 11
      refine (toSealed_any y2 A2 n2 c2 Z2 m2 d2 C2a k2a f2a C2b k2b f2b C2c k2c f2c l2 p2 l2a l2b l2c _ (RdC.ext ra2 (E.trans (by repeat (first | with_reducible assumption | with_reducible exact Ext.refl _ | with_reducible apply Ext.alloc | with_reducible apply Ext.drew | with_reducible apply Ext.drewN)))) Hn2.out (RdP.ext rq2 (E.trans (by repeat (first | with_reducible assumption | with_reducible exact Ext.refl _ | with_reducible apply Ext.alloc | with_reducible apply Ext.drew | with_reducible apply Ext.drewN)))) Hm2.out (SlI.ext s2a (E.trans (by repeat (first | with_reducible assumption | with_reducible exact Ext.refl _ | with_reducible apply Ext.alloc | with_reducible apply Ext.drew | with_reducible apply Ext.drewN)))) (SlI.ext s2b (E.trans (by repeat (first | with_reducible assumption | with_reducible exact Ext.refl _ | with_reducible apply Ext.alloc | with_reducible apply Ext.drew | with_reducible apply Ext.drewN)))) (SlI.ext s2c (E.trans (by repeat (first | with_reducible assumption | with_reducible exact Ext.refl _ | with_reducible apply Ext.alloc | with_reducible apply Ext.drew | with_reducible apply Ext.drewN)))) (by omega)).mono ?_
      rintro en wk2 ⟨At2, ct2, Xt2, dt2, Pt2, Dt20, gt20, Dt21, gt21, Dt22, gt22, rfl, t2, hbk2⟩
      have hxk2 := Ext.trans (w := w6) (by repeat (first | with_reducible assumption | with_reducible exact Ext.refl _ | with_reducible apply Ext.alloc | with_reducible apply Ext.drew | with_reducible apply Ext.drewN)) hbk2
      refine hKK.out _ _ ?_ (fun hHeld => ?_)
      · exact hS _ (by repeat (first | with_reducible assumption | with_reducible exact Ext.refl _ | with_reducible apply Ext.alloc | with_reducible apply Ext.drew | with_reducible apply Ext.drewN))
      clear hKK KK
      try simp only [Act.put, List.setIfInBounds_toArray, List.set_cons_zero, List.set_cons_succ]
      refine wpAnyH_ready (rs := [3]) (by kernel_rfl) (by simp) ?_
      refine AllReadyH.cons rfl (fun KK hKK => ?_) ?_
      · go_simp
        go_at_call 14
        refine (eqSealed_same (RdC.ext x2.c.rd (by repeat (first | with_reducible assumption | with_reducible exact Ext.refl _ | with_reducible apply Ext.alloc | with_reducible apply Ext.drew | with_reducible apply Ext.drewN))) x2.c.len (RdP.ext x2.q.rd (by repeat (first | with_reducible assumption | with_reducible exact Ext.refl _ | with_reducible apply Ext.alloc | with_reducible apply Ext.drew | with_reducible apply Ext.drewN))) x2.q.len (SlI.ext (RowsRd.three x2.s.rd).1 (by repeat (first | with_reducible assumption | with_reducible exact Ext.refl _ | with_reducible apply Ext.alloc | with_reducible apply Ext.drew | with_reducible apply Ext.drewN))) (SlI.ext (RowsRd.three x2.s.rd).2.1 (by repeat (first | with_reducible assumption | with_reducible exact Ext.refl _ | with_reducible apply Ext.alloc | with_reducible apply Ext.drew | with_reducible apply Ext.drewN))) (SlI.ext (RowsRd.three x2.s.rd).2.2 (by repeat (first | with_reducible assumption | with_reducible exact Ext.refl _ | with_reducible apply Ext.alloc | with_reducible apply Ext.drew | with_reducible apply Ext.drewN))) (RdC.ext t2.c.rd (by repeat (first | with_reducible assumption | with_reducible exact Ext.refl _ | with_reducible apply Ext.alloc | with_reducible apply Ext.drew | with_reducible apply Ext.drewN))) t2.c.len (RdP.ext t2.q.rd (by repeat (first | with_reducible assumption | with_reducible exact Ext.refl _ | with_reducible apply Ext.alloc | with_reducible apply Ext.drew | with_reducible apply Ext.drewN))) t2.q.len (SlI.ext (RowsRd.three t2.s.rd).1 (by repeat (first | with_reducible assumption | with_reducible exact Ext.refl _ | with_reducible apply Ext.alloc | with_reducible apply Ext.drew | with_reducible apply Ext.drewN))) (SlI.ext (RowsRd.three t2.s.rd).2.1 (by repeat (first | with_reducible assumption | with_reducible exact Ext.refl _ | with_reducible apply Ext.alloc | with_reducible apply Ext.drew | with_reducible apply Ext.drewN))) (SlI.ext (RowsRd.three t2.s.rd).2.2 (by repeat (first | with_reducible assumption | with_reducible exact Ext.refl _ | with_reducible apply Ext.alloc | with_reducible apply Ext.drew | with_reducible apply Ext.drewN))) x2.c.le t2.c.le x2.q.le t2.q.le).mono ?_
        rintro en wk3 ⟨rfl, hbk3⟩
        have hxk3 := Ext.trans (w := w6) (by repeat (first | with_reducible assumption | with_reducible exact Ext.refl _ | with_reducible apply Ext.alloc | with_reducible apply Ext.drew | with_reducible apply Ext.drewN)) hbk3
        replace t2 := t2.ext (Ext.trans (by repeat (first | with_reducible assumption | with_reducible exact Ext.refl _ | with_reducible apply Ext.alloc | with_reducible apply Ext.drew | with_reducible apply Ext.drewN)) hbk3)
        refine hKK.out _ _ ?_ (fun hHeld => ?_)
        · exact hS _ (by repeat (first | with_reducible assumption | with_reducible exact Ext.refl _ | with_reducible apply Ext.alloc | with_reducible apply Ext.drew | with_reducible apply Ext.drewN))
        clear hKK KK
        try simp only [Act.put, List.setIfInBounds_toArray, List.set_cons_zero, List.set_cons_succ]
        refine' wpAnyH_take (i := 4) (v := _) ?hi4 (by kernel_rfl) (by kernel_rfl) (by kernel_rfl) ?hQ4 ?hy4 (by assumption) ?_
        case hi4 => (simp only [List.getElem?_toArray, List.getElem?_cons_succ, List.getElem?_cons_zero]; rfl)
        case hy4 => refine Or.inl ⟨by rfl, ?_⟩; intro w hSw; (try dsimp only at hSw); go_simp <;> with_reducible rfl
        case hQ4 => exact fun _ _ _ h => h
        try simp only [Act.put, List.setIfInBounds_toArray, List.set_cons_zero, List.set_cons_succ]
        refine wpAnyH_done (by kernel_rfl) ?_ _
        go_wp2
        go_meet
        exact ⟨rfl, hxk3⟩
      exact AllReadyH.nil
    exact AllReadyH.nil
  case' rest =>
  obtain ⟨rfl, hb⟩ := hcut
  replace E := E.trans hb
  replace B0 := B0.ext hb
  replace B1 := B1.ext hb
  replace B2 := B2.ext hb
  replace Bw0 := Bw0.ext hb
  replace Bx2x := Bx2x.ext hb
  replace Bg0 := Bg0.ext hb
  replace x2 := x2.ext hb
  clear hb hS
  generalize wc = w7 at *
  go_wp2
  go_ret
  exact ⟨rfl, E⟩
end lawMixCipher

set_option maxRecDepth 100000 in
theorem lawMixCipher.lifted (os : Os) (started : os.Started) (H : Type) (enc : TypeId × Value → H) :
    ReturnsInHanded {} Try.checked os 3 .any (Rows.fnExactMixCipherSpec.pre6 enc Try.prog Try.f3 Rows.fnExactMixCipherRow.domain false) (Rows.fnExactMixCipherSpec.post enc Try.prog Try.f3 false true false false) := by
  refine returnsInHanded_of_change (C := Try.checked) Facts.own started (by kernel_rfl) Try.func3
    (ChangeSpec.witness6 (enc := enc) (C := Try.checked) false ⟨#[], #[.agg #[.int .i64 0, .int .i64 0, .int .i64 0], .agg #[.int .i64 0, .int .i64 0, .int .i64 0, .int .i64 0, .int .i64 0], .agg #[.int .i64 0, .slice none 0 0, .slice none 0 0, .slice none 0 0, .slice none 0 0, .slice none 0 0]], []⟩ 8 (by kernel_rfl) (by kernel_rfl) (by kernel_rfl) (by kernel_rfl)) ?_
  intro W base args ds gs before hval0 hW _ _
  have hval : ∀ (j : Nat) t v, Try.f3.params[j]? = some t → args[j]? = some v → Value.okWide Try.prog W .any base t v := hval0
  have hW' := hW
  obtain ⟨p, q, hA0, hV, rfl, hfz, hnd⟩ := hW
  have hA : DataW.TrodAll enc Try.prog W 0 (fun _ => true) true Try.f3.params.toList args.toList ds p := hA0
  rw [Try.params3] at hA hval
  obtain ⟨v0, vs0, d0, ds0, p0, q0, hargs, rfl, rfl, h0, r0⟩ := trodAll_cons hA
  obtain ⟨v1, vs1, d1, ds1, p1, q1, rfl, rfl, rfl, h1, r1⟩ := trodAll_cons r0
  obtain ⟨v2, vs2, d2, ds2, p2, q2, rfl, rfl, rfl, h2, r2⟩ := trodAll_cons r1
  obtain ⟨rfl, rfl, rfl⟩ := trodAll_nil r2
  obtain rfl : args = #[v0, v1, v2] := by cases args; simp_all
  obtain ⟨rfl, rfl⟩ := trodVars_none hV
  have hlt := hW'.lt
  clear hA hA0 hval0 hargs r0 r1 r2
  have k0 := h0
  have k1 := h1
  have k2 := h2
  obtain ⟨x0_0, x0_1, x0_2, rfl, f0_0, f0_1, f0_2⟩ := openAgg3 Try.underlying23 (by kernel_rfl) (by kernel_rfl) rfl (hval 0 23 v0 rfl rfl) h0
  obtain ⟨x1_0, x1_1, x1_2, x1_3, x1_4, rfl, f1_0, f1_1, f1_2, f1_3, f1_4⟩ := openAgg5 Try.underlying25 (by kernel_rfl) (by kernel_rfl) rfl (hval 1 25 v1 rfl rfl) h1
  obtain ⟨y2, A2, l2, c2, B2, p2, d2, C2a, l2a, f2a, C2b, l2b, f2b, C2c, l2c, f2c, rfl, r2, q2, s2a, s2b, s2c⟩ := openXS (ti := 3) (tc := 26) (tp := 27) (tq := 30) Try.underlying32 (by kernel_rfl) (by kernel_rfl) Try.underlying3 Try.underlying26 Try.underlying158 (by kernel_rfl) (by kernel_rfl) rfl Try.underlying27 Try.underlying30 (by kernel_rfl) (by kernel_rfl) rfl Try.underlying30 (by kernel_rfl) rfl (by kernel_rfl) (by kernel_rfl) (by kernel_rfl) (by kernel_rfl) (hval 2 32 v2 rfl rfl) h2
  refine (lawMixCipher.walk x0_0 x0_1 x0_2 x1_0 x1_1 x1_2 x1_3 x1_4 y2 A2 l2 c2 B2 p2 d2 C2a l2a f2a C2b l2b f2b C2c l2c f2c W f0_0 f0_1 f0_2 f1_0 f1_1 f1_2 f1_3 f1_4 r2 q2 s2a s2b s2c).mono fun e W' ⟨he, hg⟩ => ?_
  subst he
  exact ⟨_, rfl, post_below (pv := []) hW' (fun _ _ _ => (trodAll_cons_mk (shut_bool Try.underlying4 _) trodAll_mk0)) (fun sp hsp => (trodAll_cons_mk (WideElems.Trod_stays Facts.laidOut (by kernel_rfl) (of_decide_eq_true (by kernel_rfl)) k0 (fun x hx => hg.same (hlt x (by simp [hx]))) (fun x hx => hsp x (by simp [hx]))) (trodAll_cons_mk (WideElems.Trod_stays Facts.laidOut (by kernel_rfl) (of_decide_eq_true (by kernel_rfl)) k1 (fun x hx => hg.same (hlt x (by simp [hx]))) (fun x hx => hsp x (by simp [hx]))) (trodAll_cons_mk (WideElems.Trod_stays Facts.laidOut (by kernel_rfl) (of_decide_eq_true (by kernel_rfl)) k2 (fun x hx => hg.same (hlt x (by simp [hx]))) (fun x hx => hsp x (by simp [hx]))) trodAll_mk0)))) (fun _ _ => rfl) rfl
    hg (ok_one (by kernel_rfl) rfl (okWide_bool_mk Try.underlying4 _))⟩

theorem lawMixCipher.named : Try.pinned.checked.prog.funcNamed Rows.fnExactMixCipherRow.func = some 3 := by kernel_rfl
theorem lawMixCipher.z9 : (Rows.fnExactMixCipherRow.inPlace == Try.prog.inPlace 3) = true := by kernel_rfl
theorem lawMixCipher.z10 : (Rows.fnExactMixCipherRow.unfollowed == Try.prog.unfollowed 3) = true := by kernel_rfl
theorem lawMixCipher.z11 : (Rows.fnExactMixCipherRow.recurses == Try.prog.recurses 3) = true := by kernel_rfl
theorem lawMixCipher.z12 : (Rows.fnExactMixCipherRow.named == Try.prog.varsNamed 3) = true := by kernel_rfl
theorem lawMixCipher.closed : joinedFacts Try.prog 3 Try.f3 Rows.fnExactMixCipherSpec Rows.fnExactMixCipherRow = true :=
  joined_of (by kernel_rfl) Facts.laidOut Facts.mapsRowed (by kernel_rfl) (by kernel_rfl) (by kernel_rfl) (by kernel_rfl) (by kernel_rfl) (by kernel_rfl) lawMixCipher.z9 lawMixCipher.z10 lawMixCipher.z11 lawMixCipher.z12 (by kernel_rfl) (by kernel_rfl) (by kernel_rfl) (by kernel_rfl) (by kernel_rfl) (by kernel_rfl) (by kernel_rfl) (by kernel_rfl) (by kernel_rfl) (by rw [Facts.plainKeys]; rfl) (by kernel_rfl) Facts.heard Facts.enter (by rw [Facts.lifts]; rfl) (by rw [Facts.make]; rfl) (by kernel_rfl) (by kernel_rfl) (by kernel_rfl) (by kernel_rfl)
theorem lawMixCipher.inst : Try.f3.isInstance Try.pinned.checked.prog Rows.fnExactMixCipherRow.origin Rows.fnExactMixCipherRow.targs := of_decide_eq_true (by kernel_rfl)
theorem lawMixCipher.wrap : Try.f3.isWrapper Try.pinned.checked.prog Rows.fnExactMixCipherRow.wrapper Rows.fnExactMixCipherRow.mainSum := by
  unfold Func.isWrapper; first | (rw [if_pos (by decide +kernel)]; kernel_rfl) | (rw [if_neg (by decide +kernel)]; exact ⟨rfl, rfl⟩)
theorem lawMixCipher.over : Rows.fnExactMixCipherRow.holds Try.pinned (OpenSpec.ofChange Rows.fnExactMixCipherSpec) :=
  OpenClaim.holds_of_wide 3 Try.f3 rfl rfl rfl rfl rfl rfl rfl ⟨rfl, rfl, rfl, rfl, rfl⟩ rfl rfl rfl rfl rfl lawMixCipher.named Try.func3 lawMixCipher.closed
    lawMixCipher.inst lawMixCipher.wrap (fun os started H enc _ => lawMixCipher.lifted os started H enc)

theorem lawMixCipher.proved : Rows.FnExactMixCipherSaid := lawMixCipher.over
#print axioms lawMixCipher.proved
end Go.Proofs.Ytpfccboighdcbaa
