/- The law FnExactOpenSealed returns true for every input. It holds without a condition. (Printed by tools/gen_lopn.py.) -/
import Derived.Test.YtpfccboighdcbaaGreatRows
import Derived.Test.YtpfccboighdcbaaGreatOpn2
import Derived.Test.YtpfccboighdcbaaGreatOpn3
import Derived.Test.YtpfccboighdcbaaGreatRw
import Derived.Test.YtpfccboighdcbaaGreatSlK
import Derived.Test.YtpfccboighdcbaaGreatCon
import Derived.Test.YtpfccboighdcbaaGreatFacts
namespace Go.Proofs.YtpfccboighdcbaaGreat
open Go.ChangeShapes Go.WideShapes Go.ChangeAt Go.RowKit
set_option linter.unusedVariables false
set_option linter.unusedSimpArgs false

theorem opR_bd (p q g x a b c d f : Int) (l : List (Int × Int)) : ((opR p q g x a b c d f l).getD []).length ≤ 1000 := by
  unfold opR
  split
  · rename_i h
    simp only [Bool.and_eq_true] at h
    have h1 := h.1
    unfold opG seaB at h1
    simp only [Bool.and_eq_true] at h1
    exact opnV_le h1.1.2.1 h.2.2
  · simp
namespace lawOpenSealed
set_option maxRecDepth 100000 in
set_option maxHeartbeats 8000000 in
theorem walk (x0_0 x0_1 x0_2 : Int) (a1 : Int) (x2_0 x2_1 x2_2 x2_3 x2_4 : Int) (y3 : Int) (A3 : Option Addr) (l3 : List (Int × Int)) (c3 : Nat) (Z3 : Option Addr) (p3 : List (List Int × List Int × List Int)) (d3 : Nat) (C3a : Option Addr) (l3a : List Int) (f3a : Nat) (C3b : Option Addr) (l3b : List Int) (f3b : Nat) (C3c : Option Addr) (l3c : List Int) (f3c : Nat) (w : World) (f0_0 : Fits x0_0) (f0_1 : Fits x0_1) (f0_2 : Fits x0_2) (f1 : Fits a1) (f2_0 : Fits x2_0) (f2_1 : Fits x2_1) (f2_2 : Fits x2_2) (f2_3 : Fits x2_3) (f2_4 : Fits x2_4) (r3 : RdC w A3 l3 ∧ l3.length ≤ c3 ∧ c3 ≤ maxLen) (q3 : RdP w Z3 p3 ∧ p3.length ≤ d3 ∧ d3 ≤ maxLen) (s3a : SlI w C3a l3a.length f3a l3a) (s3b : SlI w C3b l3b.length f3b l3b) (s3c : SlI w C3c l3c.length f3c l3c) :
    Calls Tryz.prog 3 #[.agg #[.int .i64 x0_0, .int .i64 x0_1, .int .i64 x0_2], .int .i64 a1, .agg #[.int .i64 x2_0, .int .i64 x2_1, .int .i64 x2_2, .int .i64 x2_3, .int .i64 x2_4], .agg #[.int .i64 y3, .slice A3 l3.length c3, .slice Z3 p3.length d3, .slice C3a l3a.length f3a, .slice C3b l3b.length f3b, .slice C3c l3c.length f3c]] w fun e w' => e = .returned (.bool true) ∧ Ext w w' := by
  obtain ⟨ra3, rb3, rc3⟩ := r3
  obtain ⟨rq3, qb3, qc3⟩ := q3
  generalize hn3 : l3.length = n3 at *
  have Hn3 := Lib.hid hn3
  clear hn3
  generalize hm3 : p3.length = m3 at *
  have Hm3 := Lib.hid hm3
  clear hm3
  generalize hk3a : l3a.length = k3a at *
  clear hk3a
  generalize hk3b : l3b.length = k3b at *
  clear hk3b
  generalize hk3c : l3c.length = k3c at *
  clear hk3c
  have Q3 : n3 ≤ maxLen := Nat.le_trans rb3 rc3
  have Q3m : m3 ≤ maxLen := Nat.le_trans qb3 qc3
  unfold maxLen at Q3 Q3m
  obtain ⟨lv, hlv⟩ : ∃ lv, (opR x0_0 x0_1 x0_2 a1 x2_0 x2_1 x2_2 x2_3 x2_4 l3).getD [] = lv := ⟨_, rfl⟩
  obtain ⟨zb, hzb⟩ : ∃ zb, (opR x0_0 x0_1 x0_2 a1 x2_0 x2_1 x2_2 x2_3 x2_4 l3).isSome = zb := ⟨_, rfl⟩
  have hlen : lv.length ≤ 1000 := by rw [← hlv]; exact opR_bd _ _ _ _ _ _ _ _ _ _
  have HV := Lib.hid hlv
  have HZ := Lib.hid hzb
  clear hlv hzb
  have B0 := Blk.new (w) 23 #[.int .i64 x0_0, .int .i64 x0_1, .int .i64 x0_2]
  have B2 := Blk.new ((w.alloc (.cells #[.int .i64 x0_0, .int .i64 x0_1, .int .i64 x0_2] 23))) 25 #[.int .i64 x2_0, .int .i64 x2_1, .int .i64 x2_2, .int .i64 x2_3, .int .i64 x2_4]
  replace B0 := B0.alloc (.cells #[.int .i64 x2_0, .int .i64 x2_1, .int .i64 x2_2, .int .i64 x2_3, .int .i64 x2_4] 25)
  simp only [World.size_alloc] at B2
  have B3 := Blk.new (((w.alloc (.cells #[.int .i64 x0_0, .int .i64 x0_1, .int .i64 x0_2] 23)).alloc (.cells #[.int .i64 x2_0, .int .i64 x2_1, .int .i64 x2_2, .int .i64 x2_3, .int .i64 x2_4] 25))) 32 #[.int .i64 y3, .slice A3 n3 c3, .slice Z3 m3 d3, .slice C3a k3a f3a, .slice C3b k3b f3b, .slice C3c k3c f3c]
  replace B0 := B0.alloc (.cells #[.int .i64 y3, .slice A3 n3 c3, .slice Z3 m3 d3, .slice C3a k3a f3a, .slice C3b k3b f3b, .slice C3c k3c f3c] 32)
  replace B2 := B2.alloc (.cells #[.int .i64 y3, .slice A3 n3 c3, .slice Z3 m3 d3, .slice C3a k3a f3a, .slice C3b k3b f3b, .slice C3c k3c f3c] 32)
  simp only [World.size_alloc] at B3
  have E := ((((Ext.refl w).alloc (.cells #[.int .i64 x0_0, .int .i64 x0_1, .int .i64 x0_2] 23)).alloc (.cells #[.int .i64 x2_0, .int .i64 x2_1, .int .i64 x2_2, .int .i64 x2_3, .int .i64 x2_4] 25)).alloc (.cells #[.int .i64 y3, .slice A3 n3 c3, .slice Z3 m3 d3, .slice C3a k3a f3a, .slice C3b k3b f3b, .slice C3c k3c f3c] 32))
  go_enter Tryz.func3, Tryz.ntmps3
  have CC0 := B0.cells
  have CC2 := B2.cells
  have CC3 := B3.cells
  go_wp2_with fail
  clear CC0 CC2 CC3
  generalize (((w.alloc (.cells #[.int .i64 x0_0, .int .i64 x0_1, .int .i64 x0_2] 23)).alloc (.cells #[.int .i64 x2_0, .int .i64 x2_1, .int .i64 x2_2, .int .i64 x2_3, .int .i64 x2_4] 25)).alloc (.cells #[.int .i64 y3, .slice A3 n3 c3, .slice Z3 m3 d3, .slice C3a k3a f3a, .slice C3b k3b f3b, .slice C3c k3c f3c] 32)) = w0 at *
  rcases Nat.lt_or_ge (1048576) (n3 + (m3 + tot (flP p3)) + (k3a + k3b + k3c)) with S3 | S3
  · refine (szSealed_any (z := _) (RdP.ext rq3 E) Hm3.out (SlI.ext s3a E) (SlI.ext s3b E) (SlI.ext s3c E) (by omega) (by omega) (by unfold maxLen; omega) (by unfold maxLen; omega)).mono ?_
    rw [if_neg (by omega)]
    rintro e w' ⟨rfl, hb⟩
    go_wp2
    go_ret
    exact ⟨rfl, E.trans hb⟩
  refine (szSealed_any (z := _) (RdP.ext rq3 E) Hm3.out (SlI.ext s3a E) (SlI.ext s3b E) (SlI.ext s3c E) (by omega) (by omega) (by unfold maxLen; omega) (by unfold maxLen; omega)).mono ?_
  rw [if_pos (by omega)]
  rintro e w1 ⟨rfl, hb⟩
  replace E := E.trans hb
  replace B0 := B0.ext hb
  replace B2 := B2.ext hb
  replace B3 := B3.ext hb
  clear hb
  have LB0_Ow0 := B0.lt
  have LB2_Ow0 := B2.lt
  have LB3_Ow0 := B3.lt
  have ZOw0 := E.size
  go_wp2_with fail
  have hS : ∀ V, Ext w1 V → V.cell? ⟨w.heap.size, 0, none⟩ = some (.int .i64 x0_0) ∧ V.cell? ⟨w.heap.size, 1, none⟩ = some (.int .i64 x0_1) ∧ V.cell? ⟨w.heap.size, 2, none⟩ = some (.int .i64 x0_2) ∧ V.cell? ⟨w.heap.size + 1, 0, none⟩ = some (.int .i64 x2_0) ∧ V.cell? ⟨w.heap.size + 1, 1, none⟩ = some (.int .i64 x2_1) ∧ V.cell? ⟨w.heap.size + 1, 2, none⟩ = some (.int .i64 x2_2) ∧ V.cell? ⟨w.heap.size + 1, 3, none⟩ = some (.int .i64 x2_3) ∧ V.cell? ⟨w.heap.size + 1, 4, none⟩ = some (.int .i64 x2_4) ∧ V.cell? ⟨w.heap.size + 1 + 1, 0, none⟩ = some (.int .i64 y3) ∧ V.cell? ⟨w.heap.size + 1 + 1, 1, none⟩ = some (.slice A3 n3 c3) ∧ V.cell? ⟨w.heap.size + 1 + 1, 2, none⟩ = some (.slice Z3 m3 d3) ∧ V.cell? ⟨w.heap.size + 1 + 1, 3, none⟩ = some (.slice C3a k3a f3a) ∧ V.cell? ⟨w.heap.size + 1 + 1, 4, none⟩ = some (.slice C3b k3b f3b) ∧ V.cell? ⟨w.heap.size + 1 + 1, 5, none⟩ = some (.slice C3c k3c f3c) := fun V hV => by
    have a0 := (B0.ext hV).cells
    have a2 := (B2.ext hV).cells
    have a3 := (B3.ext hV).cells
    exact ⟨a0 0, a0 1, a0 2, a2 0, a2 1, a2 2, a2 3, a2 4, a3 0, a3 1, a3 2, a3 3, a3 4, a3 5⟩
  go_cut [10, 11] from 25 to 35 (fun c0 c1 wx => ∃ A n c, c0 = .slice A n c ∧ c1 = .bool zb ∧ OwnI wx w1.heap.size 3 A n c lv ∧ Ext w1 wx)
  case first =>
    refine wp_region_held_drew (S := fun V => V.cell? ⟨w.heap.size, 0, none⟩ = some (.int .i64 x0_0) ∧ V.cell? ⟨w.heap.size, 1, none⟩ = some (.int .i64 x0_1) ∧ V.cell? ⟨w.heap.size, 2, none⟩ = some (.int .i64 x0_2) ∧ V.cell? ⟨w.heap.size + 1, 0, none⟩ = some (.int .i64 x2_0) ∧ V.cell? ⟨w.heap.size + 1, 1, none⟩ = some (.int .i64 x2_1) ∧ V.cell? ⟨w.heap.size + 1, 2, none⟩ = some (.int .i64 x2_2) ∧ V.cell? ⟨w.heap.size + 1, 3, none⟩ = some (.int .i64 x2_3) ∧ V.cell? ⟨w.heap.size + 1, 4, none⟩ = some (.int .i64 x2_4) ∧ V.cell? ⟨w.heap.size + 1 + 1, 0, none⟩ = some (.int .i64 y3) ∧ V.cell? ⟨w.heap.size + 1 + 1, 1, none⟩ = some (.slice A3 n3 c3) ∧ V.cell? ⟨w.heap.size + 1 + 1, 2, none⟩ = some (.slice Z3 m3 d3) ∧ V.cell? ⟨w.heap.size + 1 + 1, 3, none⟩ = some (.slice C3a k3a f3a) ∧ V.cell? ⟨w.heap.size + 1 + 1, 4, none⟩ = some (.slice C3b k3b f3b) ∧ V.cell? ⟨w.heap.size + 1 + 1, 5, none⟩ = some (.slice C3c k3c f3c)) (by kernel_rfl) ?_ (fun hHeld => ?_)
    · exact hS _ (by repeat (first | with_reducible assumption | with_reducible exact Ext.refl _ | with_reducible apply Ext.alloc | with_reducible apply Ext.drew | with_reducible apply Ext.drewN))
    refine' wpAnyH_take (i := 0) (v := _) ?hi0 (by kernel_rfl) (by kernel_rfl) (by kernel_rfl) ?hQ0 ?hy0 (by assumption) ?_
    case hi0 => (simp only [List.getElem?_toArray, List.getElem?_cons_zero]; rfl)
    case hy0 => refine Or.inl ⟨by rfl, ?_⟩; intro w hSw; (try dsimp only at hSw); go_simp <;> with_reducible rfl
    case hQ0 => exact fun _ _ _ h => h
    try simp only [Act.put, List.setIfInBounds_toArray, List.set_cons_zero, List.set_cons_succ]
    refine' wpAnyH_take (i := 2) (v := _) ?hi2 (by kernel_rfl) (by kernel_rfl) (by kernel_rfl) ?hQ2 ?hy2 (by assumption) ?_
    case hi2 => (simp only [List.getElem?_toArray, List.getElem?_cons_succ, List.getElem?_cons_zero]; rfl)
    case hy2 => refine Or.inl ⟨by rfl, ?_⟩; intro w hSw; (try dsimp only at hSw); go_simp <;> with_reducible rfl
    case hQ2 => exact fun _ _ _ h => h
    try simp only [Act.put, List.setIfInBounds_toArray, List.set_cons_zero, List.set_cons_succ]
    refine' wpAnyH_take (i := 3) (v := _) ?hi3 (by kernel_rfl) (by kernel_rfl) (by kernel_rfl) ?hQ3 ?hy3 (by assumption) ?_
    case hi3 => (simp only [List.getElem?_toArray, List.getElem?_cons_succ, List.getElem?_cons_zero]; rfl)
    case hy3 => refine Or.inl ⟨by rfl, ?_⟩; intro w hSw; (try dsimp only at hSw); go_simp <;> with_reducible rfl
    case hQ3 => exact fun _ _ _ h => h
    try simp only [Act.put, List.setIfInBounds_toArray, List.set_cons_zero, List.set_cons_succ]
    refine' wpAnyH_take (i := 5) (v := _) ?hi5 (by kernel_rfl) (by kernel_rfl) (by kernel_rfl) ?hQ5 ?hy5 (by assumption) ?_
    case hi5 => (simp only [List.getElem?_toArray, List.getElem?_cons_succ, List.getElem?_cons_zero]; rfl)
    case hy5 => refine Or.inl ⟨by rfl, ?_⟩; intro w hSw; (try dsimp only at hSw); go_simp <;> with_reducible rfl
    case hQ5 => exact fun _ _ _ h => h
    try simp only [Act.put, List.setIfInBounds_toArray, List.set_cons_zero, List.set_cons_succ]
    refine wpAnyH_ready (rs := [1]) (by kernel_rfl) (by simp) ?_
    refine AllReadyH.cons rfl (fun KK hKK => ?_) ?_
    · go_simp
      go_at_call 7
      refine (toGroup_any x0_0 x0_1 x0_2 _).mono ?_
      rintro en wk1 ⟨rfl, hbk1⟩
      have hxk1 := Ext.trans (w := w1) (by repeat (first | with_reducible assumption | with_reducible exact Ext.refl _ | with_reducible apply Ext.alloc | with_reducible apply Ext.drew | with_reducible apply Ext.drewN)) hbk1
      refine hKK.out _ _ ?_ (fun hHeld => ?_)
      · exact hS _ (by repeat (first | with_reducible assumption | with_reducible exact Ext.refl _ | with_reducible apply Ext.alloc | with_reducible apply Ext.drew | with_reducible apply Ext.drewN))
      clear hKK KK
      try simp only [Act.put, List.setIfInBounds_toArray, List.set_cons_zero, List.set_cons_succ]
      refine wpAnyH_ready (rs := [4]) (by kernel_rfl) (by simp) ?_
      refine AllReadyH.cons rfl (fun KK hKK => ?_) ?_
      · go_simp
        go_at_call 8
        refine (toContest_any x2_0 x2_1 x2_2 x2_3 x2_4 _).mono ?_
        rintro en wk4 ⟨rfl, hbk4⟩
        have hxk4 := Ext.trans (w := w1) (by repeat (first | with_reducible assumption | with_reducible exact Ext.refl _ | with_reducible apply Ext.alloc | with_reducible apply Ext.drew | with_reducible apply Ext.drewN)) hbk4
        refine hKK.out _ _ ?_ (fun hHeld => ?_)
        · exact hS _ (by repeat (first | with_reducible assumption | with_reducible exact Ext.refl _ | with_reducible apply Ext.alloc | with_reducible apply Ext.drew | with_reducible apply Ext.drewN))
        clear hKK KK
        try simp only [Act.put, List.setIfInBounds_toArray, List.set_cons_zero, List.set_cons_succ]
        refine wpAnyH_ready (rs := [6]) (by kernel_rfl) (by simp) ?_
        refine AllReadyH.cons rfl (fun KK hKK => ?_) ?_
        · go_simp
          go_at_call 9
          refine (toSealed_any y3 A3 n3 c3 Z3 m3 d3 C3a k3a f3a C3b k3b f3b C3c k3c f3c l3 p3 l3a l3b l3c _ (RdC.ext ra3 (E.trans (by repeat (first | with_reducible assumption | with_reducible exact Ext.refl _ | with_reducible apply Ext.alloc | with_reducible apply Ext.drew | with_reducible apply Ext.drewN)))) Hn3.out (RdP.ext rq3 (E.trans (by repeat (first | with_reducible assumption | with_reducible exact Ext.refl _ | with_reducible apply Ext.alloc | with_reducible apply Ext.drew | with_reducible apply Ext.drewN)))) Hm3.out (SlI.ext s3a (E.trans (by repeat (first | with_reducible assumption | with_reducible exact Ext.refl _ | with_reducible apply Ext.alloc | with_reducible apply Ext.drew | with_reducible apply Ext.drewN)))) (SlI.ext s3b (E.trans (by repeat (first | with_reducible assumption | with_reducible exact Ext.refl _ | with_reducible apply Ext.alloc | with_reducible apply Ext.drew | with_reducible apply Ext.drewN)))) (SlI.ext s3c (E.trans (by repeat (first | with_reducible assumption | with_reducible exact Ext.refl _ | with_reducible apply Ext.alloc | with_reducible apply Ext.drew | with_reducible apply Ext.drewN)))) (by omega)).mono ?_
          rintro en wk6 ⟨At1, ct1, Xt1, dt1, Pt1, Dt10, gt10, Dt11, gt11, Dt12, gt12, rfl, t1, hbk6⟩
          have hxk6 := Ext.trans (w := w1) (by repeat (first | with_reducible assumption | with_reducible exact Ext.refl _ | with_reducible apply Ext.alloc | with_reducible apply Ext.drew | with_reducible apply Ext.drewN)) hbk6
          refine hKK.out _ _ ?_ (fun hHeld => ?_)
          · exact hS _ (by repeat (first | with_reducible assumption | with_reducible exact Ext.refl _ | with_reducible apply Ext.alloc | with_reducible apply Ext.drew | with_reducible apply Ext.drewN))
          clear hKK KK
          try simp only [Act.put, List.setIfInBounds_toArray, List.set_cons_zero, List.set_cons_succ]
          refine wpAnyH_ready (rs := [7]) (by kernel_rfl) (by simp) ?_
          refine AllReadyH.cons rfl (fun KK hKK => ?_) ?_
          · go_simp
            go_at_call 6
            refine (sOpenSealed_any x0_0 x0_1 x0_2 a1 x2_0 x2_1 x2_2 x2_3 x2_4 y3 At1 n3 ct1 Xt1 m3 dt1 Dt10 k3a gt10 Dt11 k3b gt11 Dt12 k3c gt12 l3 _ (RdC.ext t1.c.rd (by repeat (first | with_reducible assumption | with_reducible exact Ext.refl _ | with_reducible apply Ext.alloc | with_reducible apply Ext.drew | with_reducible apply Ext.drewN))) t1.c.len t1.c.le f1).mono ?_
            rintro en wk7 ⟨Aw0, nw0, cw0, hen, Ow0, hbk7⟩
            rw [HZ.out] at hen; rw [HV.out] at Ow0; subst hen
            have hxk7 := Ext.trans (w := w1) (by repeat (first | with_reducible assumption | with_reducible exact Ext.refl _ | with_reducible apply Ext.alloc | with_reducible apply Ext.drew | with_reducible apply Ext.drewN)) hbk7
            replace t1 := t1.ext (Ext.trans (by repeat (first | with_reducible assumption | with_reducible exact Ext.refl _ | with_reducible apply Ext.alloc | with_reducible apply Ext.drew | with_reducible apply Ext.drewN)) hbk7)
            refine hKK.out _ _ ?_ (fun hHeld => ?_)
            · exact hS _ (by repeat (first | with_reducible assumption | with_reducible exact Ext.refl _ | with_reducible apply Ext.alloc | with_reducible apply Ext.drew | with_reducible apply Ext.drewN))
            clear hKK KK
            try simp only [Act.put, List.setIfInBounds_toArray, List.set_cons_zero, List.set_cons_succ]
            refine' wpAnyH_take (i := 8) (v := _) ?hi8 (by kernel_rfl) (by kernel_rfl) (by kernel_rfl) ?hQ8 ?hy8 (by assumption) ?_
            case hi8 => (simp only [List.getElem?_toArray, List.getElem?_cons_succ, List.getElem?_cons_zero]; rfl)
            case hy8 => refine Or.inl ⟨by rfl, ?_⟩; intro w hSw; (try dsimp only at hSw); go_simp <;> with_reducible rfl
            case hQ8 => exact fun _ _ _ h => h
            try simp only [Act.put, List.setIfInBounds_toArray, List.set_cons_zero, List.set_cons_succ]
            refine' wpAnyH_take (i := 9) (v := _) ?hi9 (by kernel_rfl) (by kernel_rfl) (by kernel_rfl) ?hQ9 ?hy9 (by assumption) ?_
            case hi9 => (simp only [List.getElem?_toArray, List.getElem?_cons_succ, List.getElem?_cons_zero]; rfl)
            case hy9 => refine Or.inl ⟨by rfl, ?_⟩; intro w hSw; (try dsimp only at hSw); go_simp <;> with_reducible rfl
            case hQ9 => exact fun _ _ _ h => h
            try simp only [Act.put, List.setIfInBounds_toArray, List.set_cons_zero, List.set_cons_succ]
            refine' wpAnyH_take (i := 10) (v := _) ?hi10 (by kernel_rfl) (by kernel_rfl) (by kernel_rfl) ?hQ10 ?hy10 (by assumption) ?_
            case hi10 => (simp only [List.getElem?_toArray, List.getElem?_cons_succ, List.getElem?_cons_zero]; rfl)
            case hy10 => refine Or.inl ⟨by rfl, ?_⟩; intro w hSw; (try dsimp only at hSw); go_simp <;> with_reducible rfl
            case hQ10 => exact fun _ _ _ h => h
            try simp only [Act.put, List.setIfInBounds_toArray, List.set_cons_zero, List.set_cons_succ]
            refine' wpAnyH_take (i := 11) (v := _) ?hi11 (by kernel_rfl) (by kernel_rfl) (by kernel_rfl) ?hQ11 ?hy11 (by assumption) ?_
            case hi11 => (simp only [List.getElem?_toArray, List.getElem?_cons_succ, List.getElem?_cons_zero]; rfl)
            case hy11 => refine Or.inl ⟨by rfl, ?_⟩; intro w hSw; (try dsimp only at hSw); go_simp <;> with_reducible rfl
            case hQ11 => exact fun _ _ _ h => h
            try simp only [Act.put, List.setIfInBounds_toArray, List.set_cons_zero, List.set_cons_succ]
            refine' wpAnyH_take (i := 12) (v := _) ?hi12 (by kernel_rfl) (by kernel_rfl) (by kernel_rfl) ?hQ12 ?hy12 (by assumption) ?_
            case hi12 => (simp only [List.getElem?_toArray, List.getElem?_cons_succ, List.getElem?_cons_zero]; rfl)
            case hy12 => refine Or.inl ⟨by rfl, ?_⟩; intro w hSw; (try dsimp only at hSw); go_simp <;> with_reducible rfl
            case hQ12 => exact fun _ _ _ h => h
            try simp only [Act.put, List.setIfInBounds_toArray, List.set_cons_zero, List.set_cons_succ]
            refine wpAnyH_done (by kernel_rfl) ?_ _
            go_wp2
            go_meet
            exact ⟨_, _, _, rfl, rfl, OwnI.more Ow0 (Ext.size (w := w1) (by repeat (first | with_reducible assumption | with_reducible exact Ext.refl _ | with_reducible apply Ext.alloc | with_reducible apply Ext.drew | with_reducible apply Ext.drewN))), hxk7⟩
          exact AllReadyH.nil
        exact AllReadyH.nil
      exact AllReadyH.nil
    exact AllReadyH.nil
  case' rest =>
  obtain ⟨Aw0, nw0, cw0, rfl, rfl, Ow0, hb⟩ := hcut
  replace E := E.trans hb
  replace B0 := B0.ext hb
  replace B2 := B2.ext hb
  replace B3 := B3.ext hb
  clear hb hS
  generalize wc = w2 at *
  have Nw0 : nw0 ≤ 1000 := by have := Ow0.len; omega
  have CC0 := B0.cells
  have CC2 := B2.cells
  have CC3 := B3.cells
  go_wp2_with fail
  have LOw0_x3 := Ow0.low
  have LB0_x3 := B0.lt
  have LB2_x3 := B2.lt
  have LB3_x3 := B3.lt
  have Zx3 := E.size
  refine (toSealed_any y3 A3 n3 c3 Z3 m3 d3 C3a k3a f3a C3b k3b f3b C3c k3c f3c l3 p3 l3a l3b l3c _ (RdC.ext ra3 (E.trans (Ext.refl _))) Hn3.out (RdP.ext rq3 (E.trans (Ext.refl _))) Hm3.out (SlI.ext s3a (E.trans (Ext.refl _))) (SlI.ext s3b (E.trans (Ext.refl _))) (SlI.ext s3c (E.trans (Ext.refl _))) (by omega)).mono ?_
  rintro en w3 ⟨Ax3, cx3, Xx3, dx3, Px3, Dx30, gx30, Dx31, gx31, Dx32, gx32, rfl, x3, hb⟩
  clear CC0 CC2 CC3
  replace E := E.trans hb
  replace B0 := B0.ext hb
  replace B2 := B2.ext hb
  replace B3 := B3.ext hb
  replace Ow0 := Ow0.ext hb
  clear hb
  have CC0 := B0.cells
  have CC2 := B2.cells
  have CC3 := B3.cells
  go_wp2_with fail
  clear CC0 CC2 CC3
  have LLx3 := x3.low
  have hb := (Ext.refl w3).alloc (.cells #[.int .i64 y3, .slice Ax3 n3 cx3, .slice Xx3 m3 dx3, .slice Dx30 k3a gx30, .slice Dx31 k3b gx31, .slice Dx32 k3c gx32] 44)
  replace E := E.trans hb
  replace B0 := B0.ext hb
  replace B2 := B2.ext hb
  replace B3 := B3.ext hb
  replace Ow0 := Ow0.ext hb
  replace x3 := x3.ext hb
  have Bx3x := Blk.new w3 44 #[.int .i64 y3, .slice Ax3 n3 cx3, .slice Xx3 m3 dx3, .slice Dx30 k3a gx30, .slice Dx31 k3b gx31, .slice Dx32 k3c gx32]
  generalize hgx3 : w3.heap.size = gx3 at *
  clear hgx3 hb
  generalize w3.alloc (.cells #[.int .i64 y3, .slice Ax3 n3 cx3, .slice Xx3 m3 dx3, .slice Dx30 k3a gx30, .slice Dx31 k3b gx31, .slice Dx32 k3c gx32] 44) = w4 at *
  have LOw0_Og0 := Ow0.low
  have Lx3_Og0 := x3.low
  have LB0_Og0 := B0.lt
  have LB2_Og0 := B2.lt
  have LB3_Og0 := B3.lt
  have LBx3x_Og0 := Bx3x.lt
  have ZOg0 := E.size
  have hS : ∀ V, Ext w4 V → V.cell? ⟨w.heap.size, 0, none⟩ = some (.int .i64 x0_0) ∧ V.cell? ⟨w.heap.size, 1, none⟩ = some (.int .i64 x0_1) ∧ V.cell? ⟨w.heap.size, 2, none⟩ = some (.int .i64 x0_2) ∧ V.cell? ⟨w.heap.size + 1, 0, none⟩ = some (.int .i64 x2_0) ∧ V.cell? ⟨w.heap.size + 1, 1, none⟩ = some (.int .i64 x2_1) ∧ V.cell? ⟨w.heap.size + 1, 2, none⟩ = some (.int .i64 x2_2) ∧ V.cell? ⟨w.heap.size + 1, 3, none⟩ = some (.int .i64 x2_3) ∧ V.cell? ⟨w.heap.size + 1, 4, none⟩ = some (.int .i64 x2_4) ∧ V.cell? ⟨w.heap.size + 1 + 1, 0, none⟩ = some (.int .i64 y3) ∧ V.cell? ⟨w.heap.size + 1 + 1, 1, none⟩ = some (.slice A3 n3 c3) ∧ V.cell? ⟨w.heap.size + 1 + 1, 2, none⟩ = some (.slice Z3 m3 d3) ∧ V.cell? ⟨w.heap.size + 1 + 1, 3, none⟩ = some (.slice C3a k3a f3a) ∧ V.cell? ⟨w.heap.size + 1 + 1, 4, none⟩ = some (.slice C3b k3b f3b) ∧ V.cell? ⟨w.heap.size + 1 + 1, 5, none⟩ = some (.slice C3c k3c f3c) ∧ V.cell? ⟨gx3, 0, none⟩ = some (.int .i64 y3) ∧ V.cell? ⟨gx3, 1, none⟩ = some (.slice Ax3 n3 cx3) ∧ V.cell? ⟨gx3, 2, none⟩ = some (.slice Xx3 m3 dx3) ∧ V.cell? ⟨gx3, 3, none⟩ = some (.slice Dx30 k3a gx30) ∧ V.cell? ⟨gx3, 4, none⟩ = some (.slice Dx31 k3b gx31) ∧ V.cell? ⟨gx3, 5, none⟩ = some (.slice Dx32 k3c gx32) := fun V hV => by
    have a0 := (B0.ext hV).cells
    have a2 := (B2.ext hV).cells
    have a3 := (B3.ext hV).cells
    have ax3x := (Bx3x.ext hV).cells
    exact ⟨a0 0, a0 1, a0 2, a2 0, a2 1, a2 2, a2 3, a2 4, a3 0, a3 1, a3 2, a3 3, a3 4, a3 5, ax3x 0, ax3x 1, ax3x 2, ax3x 3, ax3x 4, ax3x 5⟩
  go_cut [13, 14] from 38 to 47 (fun c0 c1 wx => ∃ A n c, c0 = .slice A n c ∧ c1 = .bool zb ∧ OwnI wx w4.heap.size 3 A n c lv ∧ Ext w4 wx)
  case first =>
    refine wp_region_held_drew (S := fun V => V.cell? ⟨w.heap.size, 0, none⟩ = some (.int .i64 x0_0) ∧ V.cell? ⟨w.heap.size, 1, none⟩ = some (.int .i64 x0_1) ∧ V.cell? ⟨w.heap.size, 2, none⟩ = some (.int .i64 x0_2) ∧ V.cell? ⟨w.heap.size + 1, 0, none⟩ = some (.int .i64 x2_0) ∧ V.cell? ⟨w.heap.size + 1, 1, none⟩ = some (.int .i64 x2_1) ∧ V.cell? ⟨w.heap.size + 1, 2, none⟩ = some (.int .i64 x2_2) ∧ V.cell? ⟨w.heap.size + 1, 3, none⟩ = some (.int .i64 x2_3) ∧ V.cell? ⟨w.heap.size + 1, 4, none⟩ = some (.int .i64 x2_4) ∧ V.cell? ⟨w.heap.size + 1 + 1, 0, none⟩ = some (.int .i64 y3) ∧ V.cell? ⟨w.heap.size + 1 + 1, 1, none⟩ = some (.slice A3 n3 c3) ∧ V.cell? ⟨w.heap.size + 1 + 1, 2, none⟩ = some (.slice Z3 m3 d3) ∧ V.cell? ⟨w.heap.size + 1 + 1, 3, none⟩ = some (.slice C3a k3a f3a) ∧ V.cell? ⟨w.heap.size + 1 + 1, 4, none⟩ = some (.slice C3b k3b f3b) ∧ V.cell? ⟨w.heap.size + 1 + 1, 5, none⟩ = some (.slice C3c k3c f3c) ∧ V.cell? ⟨gx3, 0, none⟩ = some (.int .i64 y3) ∧ V.cell? ⟨gx3, 1, none⟩ = some (.slice Ax3 n3 cx3) ∧ V.cell? ⟨gx3, 2, none⟩ = some (.slice Xx3 m3 dx3) ∧ V.cell? ⟨gx3, 3, none⟩ = some (.slice Dx30 k3a gx30) ∧ V.cell? ⟨gx3, 4, none⟩ = some (.slice Dx31 k3b gx31) ∧ V.cell? ⟨gx3, 5, none⟩ = some (.slice Dx32 k3c gx32)) (by kernel_rfl) ?_ (fun hHeld => ?_)
    · exact hS _ (by repeat (first | with_reducible assumption | with_reducible exact Ext.refl _ | with_reducible apply Ext.alloc | with_reducible apply Ext.drew | with_reducible apply Ext.drewN))
    refine' wpAnyH_take (i := 0) (v := _) ?hi0 (by kernel_rfl) (by kernel_rfl) (by kernel_rfl) ?hQ0 ?hy0 (by assumption) ?_
    case hi0 => (simp only [List.getElem?_toArray, List.getElem?_cons_zero]; rfl)
    case hy0 => refine Or.inl ⟨by rfl, ?_⟩; intro w hSw; (try dsimp only at hSw); go_simp <;> with_reducible rfl
    case hQ0 => exact fun _ _ _ h => h
    try simp only [Act.put, List.setIfInBounds_toArray, List.set_cons_zero, List.set_cons_succ]
    refine' wpAnyH_take (i := 2) (v := _) ?hi2 (by kernel_rfl) (by kernel_rfl) (by kernel_rfl) ?hQ2 ?hy2 (by assumption) ?_
    case hi2 => (simp only [List.getElem?_toArray, List.getElem?_cons_succ, List.getElem?_cons_zero]; rfl)
    case hy2 => refine Or.inl ⟨by rfl, ?_⟩; intro w hSw; (try dsimp only at hSw); go_simp <;> with_reducible rfl
    case hQ2 => exact fun _ _ _ h => h
    try simp only [Act.put, List.setIfInBounds_toArray, List.set_cons_zero, List.set_cons_succ]
    refine' wpAnyH_take (i := 3) (v := _) ?hi3 (by kernel_rfl) (by kernel_rfl) (by kernel_rfl) ?hQ3 ?hy3 (by assumption) ?_
    case hi3 => (simp only [List.getElem?_toArray, List.getElem?_cons_succ, List.getElem?_cons_zero]; rfl)
    case hy3 => refine Or.inl ⟨by rfl, ?_⟩; intro w hSw; (try dsimp only at hSw); go_simp <;> with_reducible rfl
    case hQ3 => exact fun _ _ _ h => h
    try simp only [Act.put, List.setIfInBounds_toArray, List.set_cons_zero, List.set_cons_succ]
    refine' wpAnyH_take (i := 5) (v := _) ?hi5 (by kernel_rfl) (by kernel_rfl) (by kernel_rfl) ?hQ5 ?hy5 (by assumption) ?_
    case hi5 => (simp only [List.getElem?_toArray, List.getElem?_cons_succ, List.getElem?_cons_zero]; rfl)
    case hy5 => refine Or.inl ⟨by rfl, ?_⟩; intro w hSw; (try dsimp only at hSw); go_simp <;> with_reducible rfl
    case hQ5 => exact fun _ _ _ h => h
    try simp only [Act.put, List.setIfInBounds_toArray, List.set_cons_zero, List.set_cons_succ]
    refine wpAnyH_ready (rs := [1]) (by kernel_rfl) (by simp) ?_
    refine AllReadyH.cons rfl (fun KK hKK => ?_) ?_
    · go_simp
      go_at_call 7
      refine (toGroup_any x0_0 x0_1 x0_2 _).mono ?_
      rintro en wk1 ⟨rfl, hbk1⟩
      have hxk1 := Ext.trans (w := w4) (by repeat (first | with_reducible assumption | with_reducible exact Ext.refl _ | with_reducible apply Ext.alloc | with_reducible apply Ext.drew | with_reducible apply Ext.drewN)) hbk1
      refine hKK.out _ _ ?_ (fun hHeld => ?_)
      · exact hS _ (by repeat (first | with_reducible assumption | with_reducible exact Ext.refl _ | with_reducible apply Ext.alloc | with_reducible apply Ext.drew | with_reducible apply Ext.drewN))
      clear hKK KK
      try simp only [Act.put, List.setIfInBounds_toArray, List.set_cons_zero, List.set_cons_succ]
      refine wpAnyH_ready (rs := [4]) (by kernel_rfl) (by simp) ?_
      refine AllReadyH.cons rfl (fun KK hKK => ?_) ?_
      · go_simp
        go_at_call 8
        refine (toContest_any x2_0 x2_1 x2_2 x2_3 x2_4 _).mono ?_
        rintro en wk4 ⟨rfl, hbk4⟩
        have hxk4 := Ext.trans (w := w4) (by repeat (first | with_reducible assumption | with_reducible exact Ext.refl _ | with_reducible apply Ext.alloc | with_reducible apply Ext.drew | with_reducible apply Ext.drewN)) hbk4
        refine hKK.out _ _ ?_ (fun hHeld => ?_)
        · exact hS _ (by repeat (first | with_reducible assumption | with_reducible exact Ext.refl _ | with_reducible apply Ext.alloc | with_reducible apply Ext.drew | with_reducible apply Ext.drewN))
        clear hKK KK
        try simp only [Act.put, List.setIfInBounds_toArray, List.set_cons_zero, List.set_cons_succ]
        refine wpAnyH_ready (rs := [6]) (by kernel_rfl) (by simp) ?_
        refine AllReadyH.cons rfl (fun KK hKK => ?_) ?_
        · go_simp
          go_at_call 10
          refine (iOpenSealed_any x0_0 x0_1 x0_2 a1 x2_0 x2_1 x2_2 x2_3 x2_4 y3 Ax3 n3 cx3 Xx3 m3 dx3 Dx30 k3a gx30 Dx31 k3b gx31 Dx32 k3c gx32 l3 _ (RdC.ext x3.c.rd (by repeat (first | with_reducible assumption | with_reducible exact Ext.refl _ | with_reducible apply Ext.alloc | with_reducible apply Ext.drew | with_reducible apply Ext.drewN))) x3.c.len x3.c.le f1).mono ?_
          rintro en wk6 ⟨Ag0, ng0, cg0, hen, Og0, hbk6⟩
          rw [HZ.out] at hen; rw [HV.out] at Og0; subst hen
          have hxk6 := Ext.trans (w := w4) (by repeat (first | with_reducible assumption | with_reducible exact Ext.refl _ | with_reducible apply Ext.alloc | with_reducible apply Ext.drew | with_reducible apply Ext.drewN)) hbk6
          refine hKK.out _ _ ?_ (fun hHeld => ?_)
          · exact hS _ (by repeat (first | with_reducible assumption | with_reducible exact Ext.refl _ | with_reducible apply Ext.alloc | with_reducible apply Ext.drew | with_reducible apply Ext.drewN))
          clear hKK KK
          try simp only [Act.put, List.setIfInBounds_toArray, List.set_cons_zero, List.set_cons_succ]
          refine' wpAnyH_take (i := 7) (v := _) ?hi7 (by kernel_rfl) (by kernel_rfl) (by kernel_rfl) ?hQ7 ?hy7 (by assumption) ?_
          case hi7 => (simp only [List.getElem?_toArray, List.getElem?_cons_succ, List.getElem?_cons_zero]; rfl)
          case hy7 => refine Or.inl ⟨by rfl, ?_⟩; intro w hSw; (try dsimp only at hSw); go_simp <;> with_reducible rfl
          case hQ7 => exact fun _ _ _ h => h
          try simp only [Act.put, List.setIfInBounds_toArray, List.set_cons_zero, List.set_cons_succ]
          refine' wpAnyH_take (i := 8) (v := _) ?hi8 (by kernel_rfl) (by kernel_rfl) (by kernel_rfl) ?hQ8 ?hy8 (by assumption) ?_
          case hi8 => (simp only [List.getElem?_toArray, List.getElem?_cons_succ, List.getElem?_cons_zero]; rfl)
          case hy8 => refine Or.inl ⟨by rfl, ?_⟩; intro w hSw; (try dsimp only at hSw); go_simp <;> with_reducible rfl
          case hQ8 => exact fun _ _ _ h => h
          try simp only [Act.put, List.setIfInBounds_toArray, List.set_cons_zero, List.set_cons_succ]
          refine' wpAnyH_take (i := 9) (v := _) ?hi9 (by kernel_rfl) (by kernel_rfl) (by kernel_rfl) ?hQ9 ?hy9 (by assumption) ?_
          case hi9 => (simp only [List.getElem?_toArray, List.getElem?_cons_succ, List.getElem?_cons_zero]; rfl)
          case hy9 => refine Or.inl ⟨by rfl, ?_⟩; intro w hSw; (try dsimp only at hSw); go_simp <;> with_reducible rfl
          case hQ9 => exact fun _ _ _ h => h
          try simp only [Act.put, List.setIfInBounds_toArray, List.set_cons_zero, List.set_cons_succ]
          refine' wpAnyH_take (i := 10) (v := _) ?hi10 (by kernel_rfl) (by kernel_rfl) (by kernel_rfl) ?hQ10 ?hy10 (by assumption) ?_
          case hi10 => (simp only [List.getElem?_toArray, List.getElem?_cons_succ, List.getElem?_cons_zero]; rfl)
          case hy10 => refine Or.inl ⟨by rfl, ?_⟩; intro w hSw; (try dsimp only at hSw); go_simp <;> with_reducible rfl
          case hQ10 => exact fun _ _ _ h => h
          try simp only [Act.put, List.setIfInBounds_toArray, List.set_cons_zero, List.set_cons_succ]
          refine' wpAnyH_take (i := 11) (v := _) ?hi11 (by kernel_rfl) (by kernel_rfl) (by kernel_rfl) ?hQ11 ?hy11 (by assumption) ?_
          case hi11 => (simp only [List.getElem?_toArray, List.getElem?_cons_succ, List.getElem?_cons_zero]; rfl)
          case hy11 => refine Or.inl ⟨by rfl, ?_⟩; intro w hSw; (try dsimp only at hSw); go_simp <;> with_reducible rfl
          case hQ11 => exact fun _ _ _ h => h
          try simp only [Act.put, List.setIfInBounds_toArray, List.set_cons_zero, List.set_cons_succ]
          refine wpAnyH_done (by kernel_rfl) ?_ _
          go_wp2
          go_meet
          exact ⟨_, _, _, rfl, rfl, OwnI.more Og0 (Ext.size (w := w4) (by repeat (first | with_reducible assumption | with_reducible exact Ext.refl _ | with_reducible apply Ext.alloc | with_reducible apply Ext.drew | with_reducible apply Ext.drewN))), hxk6⟩
        exact AllReadyH.nil
      exact AllReadyH.nil
    exact AllReadyH.nil
  case' rest =>
  obtain ⟨Ag0, ng0, cg0, rfl, rfl, Og0, hb⟩ := hcut
  replace E := E.trans hb
  replace B0 := B0.ext hb
  replace B2 := B2.ext hb
  replace B3 := B3.ext hb
  replace Bx3x := Bx3x.ext hb
  replace Ow0 := Ow0.ext hb
  replace x3 := x3.ext hb
  clear hb hS
  generalize wc = w5 at *
  have Ng0 : ng0 ≤ 1000 := by have := Og0.len; omega
  have CC0 := B0.cells
  have CC2 := B2.cells
  have CC3 := B3.cells
  have CCx3x := Bx3x.cells
  go_wp2_with fail
  refine (eqIntS_same (RdI.ext Og0.rd (Ext.refl _)) (RdI.ext Ow0.rd (Ext.refl _)) Og0.len Ow0.len Og0.le Ow0.le).mono ?_
  rintro en w6 ⟨rfl, hb⟩
  clear CC0 CC2 CC3 CCx3x
  replace E := E.trans hb
  replace B0 := B0.ext hb
  replace B2 := B2.ext hb
  replace B3 := B3.ext hb
  replace Bx3x := Bx3x.ext hb
  replace Ow0 := Ow0.ext hb
  replace x3 := x3.ext hb
  replace Og0 := Og0.ext hb
  clear hb
  go_wp2_with fail
  have hS : ∀ V, Ext w6 V → V.cell? ⟨w.heap.size, 0, none⟩ = some (.int .i64 x0_0) ∧ V.cell? ⟨w.heap.size, 1, none⟩ = some (.int .i64 x0_1) ∧ V.cell? ⟨w.heap.size, 2, none⟩ = some (.int .i64 x0_2) ∧ V.cell? ⟨w.heap.size + 1, 0, none⟩ = some (.int .i64 x2_0) ∧ V.cell? ⟨w.heap.size + 1, 1, none⟩ = some (.int .i64 x2_1) ∧ V.cell? ⟨w.heap.size + 1, 2, none⟩ = some (.int .i64 x2_2) ∧ V.cell? ⟨w.heap.size + 1, 3, none⟩ = some (.int .i64 x2_3) ∧ V.cell? ⟨w.heap.size + 1, 4, none⟩ = some (.int .i64 x2_4) ∧ V.cell? ⟨w.heap.size + 1 + 1, 0, none⟩ = some (.int .i64 y3) ∧ V.cell? ⟨w.heap.size + 1 + 1, 1, none⟩ = some (.slice A3 n3 c3) ∧ V.cell? ⟨w.heap.size + 1 + 1, 2, none⟩ = some (.slice Z3 m3 d3) ∧ V.cell? ⟨w.heap.size + 1 + 1, 3, none⟩ = some (.slice C3a k3a f3a) ∧ V.cell? ⟨w.heap.size + 1 + 1, 4, none⟩ = some (.slice C3b k3b f3b) ∧ V.cell? ⟨w.heap.size + 1 + 1, 5, none⟩ = some (.slice C3c k3c f3c) ∧ V.cell? ⟨gx3, 0, none⟩ = some (.int .i64 y3) ∧ V.cell? ⟨gx3, 1, none⟩ = some (.slice Ax3 n3 cx3) ∧ V.cell? ⟨gx3, 2, none⟩ = some (.slice Xx3 m3 dx3) ∧ V.cell? ⟨gx3, 3, none⟩ = some (.slice Dx30 k3a gx30) ∧ V.cell? ⟨gx3, 4, none⟩ = some (.slice Dx31 k3b gx31) ∧ V.cell? ⟨gx3, 5, none⟩ = some (.slice Dx32 k3c gx32) := fun V hV => by
    have a0 := (B0.ext hV).cells
    have a2 := (B2.ext hV).cells
    have a3 := (B3.ext hV).cells
    have ax3x := (Bx3x.ext hV).cells
    exact ⟨a0 0, a0 1, a0 2, a2 0, a2 1, a2 2, a2 3, a2 4, a3 0, a3 1, a3 2, a3 3, a3 4, a3 5, ax3x 0, ax3x 1, ax3x 2, ax3x 3, ax3x 4, ax3x 5⟩
  go_cut [61] from 57 to 61 (fun c0 wx => c0 = .bool false ∧ Ext w6 wx)
  case first =>
    refine wp_region_held_drew (S := fun V => V.cell? ⟨w.heap.size, 0, none⟩ = some (.int .i64 x0_0) ∧ V.cell? ⟨w.heap.size, 1, none⟩ = some (.int .i64 x0_1) ∧ V.cell? ⟨w.heap.size, 2, none⟩ = some (.int .i64 x0_2) ∧ V.cell? ⟨w.heap.size + 1, 0, none⟩ = some (.int .i64 x2_0) ∧ V.cell? ⟨w.heap.size + 1, 1, none⟩ = some (.int .i64 x2_1) ∧ V.cell? ⟨w.heap.size + 1, 2, none⟩ = some (.int .i64 x2_2) ∧ V.cell? ⟨w.heap.size + 1, 3, none⟩ = some (.int .i64 x2_3) ∧ V.cell? ⟨w.heap.size + 1, 4, none⟩ = some (.int .i64 x2_4) ∧ V.cell? ⟨w.heap.size + 1 + 1, 0, none⟩ = some (.int .i64 y3) ∧ V.cell? ⟨w.heap.size + 1 + 1, 1, none⟩ = some (.slice A3 n3 c3) ∧ V.cell? ⟨w.heap.size + 1 + 1, 2, none⟩ = some (.slice Z3 m3 d3) ∧ V.cell? ⟨w.heap.size + 1 + 1, 3, none⟩ = some (.slice C3a k3a f3a) ∧ V.cell? ⟨w.heap.size + 1 + 1, 4, none⟩ = some (.slice C3b k3b f3b) ∧ V.cell? ⟨w.heap.size + 1 + 1, 5, none⟩ = some (.slice C3c k3c f3c) ∧ V.cell? ⟨gx3, 0, none⟩ = some (.int .i64 y3) ∧ V.cell? ⟨gx3, 1, none⟩ = some (.slice Ax3 n3 cx3) ∧ V.cell? ⟨gx3, 2, none⟩ = some (.slice Xx3 m3 dx3) ∧ V.cell? ⟨gx3, 3, none⟩ = some (.slice Dx30 k3a gx30) ∧ V.cell? ⟨gx3, 4, none⟩ = some (.slice Dx31 k3b gx31) ∧ V.cell? ⟨gx3, 5, none⟩ = some (.slice Dx32 k3c gx32)) (by kernel_rfl) ?_ (fun hHeld => ?_)
    · exact hS _ (by repeat (first | with_reducible assumption | with_reducible exact Ext.refl _ | with_reducible apply Ext.alloc | with_reducible apply Ext.drew | with_reducible apply Ext.drewN))
    refine' wpAnyH_take (i := 0) (v := _) ?hi0 (by kernel_rfl) (by kernel_rfl) (by kernel_rfl) ?hQ0 ?hy0 (by assumption) ?_
    case hi0 => (simp only [List.getElem?_toArray, List.getElem?_cons_zero]; rfl)
    case hy0 => refine Or.inl ⟨by rfl, ?_⟩; intro w hSw; (try dsimp only at hSw); go_simp <;> with_reducible rfl
    case hQ0 => exact fun _ _ _ h => h
    try simp only [Act.put, List.setIfInBounds_toArray, List.set_cons_zero, List.set_cons_succ]
    refine' wpAnyH_take (i := 1) (v := _) ?hi1 (by kernel_rfl) (by kernel_rfl) (by kernel_rfl) ?hQ1 ?hy1 (by assumption) ?_
    case hi1 => (simp only [List.getElem?_toArray, List.getElem?_cons_succ, List.getElem?_cons_zero]; rfl)
    case hy1 => refine Or.inl ⟨by rfl, ?_⟩; intro w hSw; (try dsimp only at hSw); go_simp <;> with_reducible rfl
    case hQ1 => exact fun _ _ _ h => h
    try simp only [Act.put, List.setIfInBounds_toArray, List.set_cons_zero, List.set_cons_succ]
    refine wpAnyH_ready (rs := [2]) (by kernel_rfl) (by simp) ?_
    refine AllReadyH.cons rfl (fun KK hKK => ?_) ?_
    · go_simp
      go_at_call 9
      refine (toSealed_any y3 A3 n3 c3 Z3 m3 d3 C3a k3a f3a C3b k3b f3b C3c k3c f3c l3 p3 l3a l3b l3c _ (RdC.ext ra3 (E.trans (by repeat (first | with_reducible assumption | with_reducible exact Ext.refl _ | with_reducible apply Ext.alloc | with_reducible apply Ext.drew | with_reducible apply Ext.drewN)))) Hn3.out (RdP.ext rq3 (E.trans (by repeat (first | with_reducible assumption | with_reducible exact Ext.refl _ | with_reducible apply Ext.alloc | with_reducible apply Ext.drew | with_reducible apply Ext.drewN)))) Hm3.out (SlI.ext s3a (E.trans (by repeat (first | with_reducible assumption | with_reducible exact Ext.refl _ | with_reducible apply Ext.alloc | with_reducible apply Ext.drew | with_reducible apply Ext.drewN)))) (SlI.ext s3b (E.trans (by repeat (first | with_reducible assumption | with_reducible exact Ext.refl _ | with_reducible apply Ext.alloc | with_reducible apply Ext.drew | with_reducible apply Ext.drewN)))) (SlI.ext s3c (E.trans (by repeat (first | with_reducible assumption | with_reducible exact Ext.refl _ | with_reducible apply Ext.alloc | with_reducible apply Ext.drew | with_reducible apply Ext.drewN)))) (by omega)).mono ?_
      rintro en wk2 ⟨At2, ct2, Xt2, dt2, Pt2, Dt20, gt20, Dt21, gt21, Dt22, gt22, rfl, t2, hbk2⟩
      have hxk2 := Ext.trans (w := w6) (by repeat (first | with_reducible assumption | with_reducible exact Ext.refl _ | with_reducible apply Ext.alloc | with_reducible apply Ext.drew | with_reducible apply Ext.drewN)) hbk2
      refine hKK.out _ _ ?_ (fun hHeld => ?_)
      · exact hS _ (by repeat (first | with_reducible assumption | with_reducible exact Ext.refl _ | with_reducible apply Ext.alloc | with_reducible apply Ext.drew | with_reducible apply Ext.drewN))
      clear hKK KK
      try simp only [Act.put, List.setIfInBounds_toArray, List.set_cons_zero, List.set_cons_succ]
      refine wpAnyH_ready (rs := [3]) (by kernel_rfl) (by simp) ?_
      refine AllReadyH.cons rfl (fun KK hKK => ?_) ?_
      · go_simp
        go_at_call 12
        refine (eqSealed_same (RdC.ext x3.c.rd (by repeat (first | with_reducible assumption | with_reducible exact Ext.refl _ | with_reducible apply Ext.alloc | with_reducible apply Ext.drew | with_reducible apply Ext.drewN))) x3.c.len (RdP.ext x3.q.rd (by repeat (first | with_reducible assumption | with_reducible exact Ext.refl _ | with_reducible apply Ext.alloc | with_reducible apply Ext.drew | with_reducible apply Ext.drewN))) x3.q.len (SlI.ext (RowsRd.three x3.s.rd).1 (by repeat (first | with_reducible assumption | with_reducible exact Ext.refl _ | with_reducible apply Ext.alloc | with_reducible apply Ext.drew | with_reducible apply Ext.drewN))) (SlI.ext (RowsRd.three x3.s.rd).2.1 (by repeat (first | with_reducible assumption | with_reducible exact Ext.refl _ | with_reducible apply Ext.alloc | with_reducible apply Ext.drew | with_reducible apply Ext.drewN))) (SlI.ext (RowsRd.three x3.s.rd).2.2 (by repeat (first | with_reducible assumption | with_reducible exact Ext.refl _ | with_reducible apply Ext.alloc | with_reducible apply Ext.drew | with_reducible apply Ext.drewN))) (RdC.ext t2.c.rd (by repeat (first | with_reducible assumption | with_reducible exact Ext.refl _ | with_reducible apply Ext.alloc | with_reducible apply Ext.drew | with_reducible apply Ext.drewN))) t2.c.len (RdP.ext t2.q.rd (by repeat (first | with_reducible assumption | with_reducible exact Ext.refl _ | with_reducible apply Ext.alloc | with_reducible apply Ext.drew | with_reducible apply Ext.drewN))) t2.q.len (SlI.ext (RowsRd.three t2.s.rd).1 (by repeat (first | with_reducible assumption | with_reducible exact Ext.refl _ | with_reducible apply Ext.alloc | with_reducible apply Ext.drew | with_reducible apply Ext.drewN))) (SlI.ext (RowsRd.three t2.s.rd).2.1 (by repeat (first | with_reducible assumption | with_reducible exact Ext.refl _ | with_reducible apply Ext.alloc | with_reducible apply Ext.drew | with_reducible apply Ext.drewN))) (SlI.ext (RowsRd.three t2.s.rd).2.2 (by repeat (first | with_reducible assumption | with_reducible exact Ext.refl _ | with_reducible apply Ext.alloc | with_reducible apply Ext.drew | with_reducible apply Ext.drewN))) x3.c.le t2.c.le x3.q.le t2.q.le).mono ?_
        rintro en wk3 ⟨rfl, hbk3⟩
        have hxk3 := Ext.trans (w := w6) (by repeat (first | with_reducible assumption | with_reducible exact Ext.refl _ | with_reducible apply Ext.alloc | with_reducible apply Ext.drew | with_reducible apply Ext.drewN)) hbk3
        replace t2 := t2.ext (Ext.trans (by repeat (first | with_reducible assumption | with_reducible exact Ext.refl _ | with_reducible apply Ext.alloc | with_reducible apply Ext.drew | with_reducible apply Ext.drewN)) hbk3)
        refine hKK.out _ _ ?_ (fun hHeld => ?_)
        · exact hS _ (by repeat (first | with_reducible assumption | with_reducible exact Ext.refl _ | with_reducible apply Ext.alloc | with_reducible apply Ext.drew | with_reducible apply Ext.drewN))
        clear hKK KK
        try simp only [Act.put, List.setIfInBounds_toArray, List.set_cons_zero, List.set_cons_succ]
        refine' wpAnyH_take (i := 4) (v := _) ?hi4 (by kernel_rfl) (by kernel_rfl) (by kernel_rfl) ?hQ4 ?hy4 (by assumption) ?_
        case hi4 => (simp only [List.getElem?_toArray, List.getElem?_cons_succ, List.getElem?_cons_zero]; rfl)
        case hy4 => refine Or.inl ⟨by rfl, ?_⟩; intro w hSw; (try dsimp only at hSw); go_simp <;> with_reducible rfl
        case hQ4 => exact fun _ _ _ h => h
        try simp only [Act.put, List.setIfInBounds_toArray, List.set_cons_zero, List.set_cons_succ]
        refine wpAnyH_done (by kernel_rfl) ?_ _
        go_wp2
        go_meet
        exact ⟨rfl, hxk3⟩
      exact AllReadyH.nil
    exact AllReadyH.nil
  case' rest =>
  obtain ⟨rfl, hb⟩ := hcut
  replace E := E.trans hb
  replace B0 := B0.ext hb
  replace B2 := B2.ext hb
  replace B3 := B3.ext hb
  replace Bx3x := Bx3x.ext hb
  replace Ow0 := Ow0.ext hb
  replace x3 := x3.ext hb
  replace Og0 := Og0.ext hb
  clear hb hS
  generalize wc = w7 at *
  have CC0 := B0.cells
  have CC2 := B2.cells
  have CC3 := B3.cells
  have CCx3x := Bx3x.cells
  go_wp2_with fail
  refine (markSealed_any x3 (by omega) (by omega)).mono ?_
  rintro e w8 ⟨rfl, hO⟩
  clear CC0 CC2 CC3 CCx3x
  replace E := E.only hO (x3.high.mono Zx3)
  replace B0 := B0.only hO (fun hh => by have h1 := x3.high _ hh; have h2 := LB0_x3; omega)
  replace B2 := B2.only hO (fun hh => by have h1 := x3.high _ hh; have h2 := LB2_x3; omega)
  replace B3 := B3.only hO (fun hh => by have h1 := x3.high _ hh; have h2 := LB3_x3; omega)
  replace Bx3x := Bx3x.only hO (fun hh => by have := LLx3 _ hh; omega)
  replace Ow0 := Ow0.only hO (Apart.of_low LOw0_x3 x3.high)
  replace Og0 := Og0.only hO (Apart.of_high Lx3_Og0 Og0.high)
  clear hO x3
  have CC0 := B0.cells
  have CC2 := B2.cells
  have CC3 := B3.cells
  have CCx3x := Bx3x.cells
  go_wp2_with fail
  refine (eqIntS_same (RdI.ext Og0.rd (Ext.refl _)) (RdI.ext Ow0.rd (Ext.refl _)) Og0.len Ow0.len Og0.le Ow0.le).mono ?_
  rintro en w9 ⟨rfl, hb⟩
  clear CC0 CC2 CC3 CCx3x
  replace E := E.trans hb
  replace B0 := B0.ext hb
  replace B2 := B2.ext hb
  replace B3 := B3.ext hb
  replace Bx3x := Bx3x.ext hb
  replace Ow0 := Ow0.ext hb
  replace Og0 := Og0.ext hb
  clear hb
  have CC0 := B0.cells
  have CC2 := B2.cells
  have CC3 := B3.cells
  have CCx3x := Bx3x.cells
  go_wp2_with fail
  refine (markIntS_any Og0 (by omega) (by omega)).mono ?_
  rintro e w10 ⟨rfl, hm, hO⟩
  clear CC0 CC2 CC3 CCx3x
  replace E := E.only hO (Og0.high.mono ZOg0)
  replace B0 := B0.only hO (B0.off_own Og0.w (by decide))
  replace B2 := B2.only hO (B2.off_own Og0.w (by decide))
  replace B3 := B3.only hO (B3.off_own Og0.w (by decide))
  replace Bx3x := Bx3x.only hO (Bx3x.off_own Og0.w (by decide))
  replace Ow0 := Ow0.only hO (Apart.of_low LOw0_Og0 Og0.high)
  clear hO Og0
  have Og0 := hm
  clear hm
  have CC0 := B0.cells
  have CC2 := B2.cells
  have CC3 := B3.cells
  have CCx3x := Bx3x.cells
  go_wp2_with fail
  refine (heldIntS_any Og0.rd (by omega) (by omega)).mono ?_
  rintro en w11 ⟨rfl, hb⟩
  clear CC0 CC2 CC3 CCx3x
  replace E := E.trans hb
  replace B0 := B0.ext hb
  replace B2 := B2.ext hb
  replace B3 := B3.ext hb
  replace Bx3x := Bx3x.ext hb
  replace Ow0 := Ow0.ext hb
  replace Og0 := Og0.ext hb
  clear hb
  have LOw0_Oh0 := Ow0.low
  have LOg0_Oh0 := Og0.low
  have LB0_Oh0 := B0.lt
  have LB2_Oh0 := B2.lt
  have LB3_Oh0 := B3.lt
  have LBx3x_Oh0 := Bx3x.lt
  have ZOh0 := E.size
  go_wp2_with fail
  have hS : ∀ V, Ext w11 V → V.cell? ⟨w.heap.size, 0, none⟩ = some (.int .i64 x0_0) ∧ V.cell? ⟨w.heap.size, 1, none⟩ = some (.int .i64 x0_1) ∧ V.cell? ⟨w.heap.size, 2, none⟩ = some (.int .i64 x0_2) ∧ V.cell? ⟨w.heap.size + 1, 0, none⟩ = some (.int .i64 x2_0) ∧ V.cell? ⟨w.heap.size + 1, 1, none⟩ = some (.int .i64 x2_1) ∧ V.cell? ⟨w.heap.size + 1, 2, none⟩ = some (.int .i64 x2_2) ∧ V.cell? ⟨w.heap.size + 1, 3, none⟩ = some (.int .i64 x2_3) ∧ V.cell? ⟨w.heap.size + 1, 4, none⟩ = some (.int .i64 x2_4) ∧ V.cell? ⟨w.heap.size + 1 + 1, 0, none⟩ = some (.int .i64 y3) ∧ V.cell? ⟨w.heap.size + 1 + 1, 1, none⟩ = some (.slice A3 n3 c3) ∧ V.cell? ⟨w.heap.size + 1 + 1, 2, none⟩ = some (.slice Z3 m3 d3) ∧ V.cell? ⟨w.heap.size + 1 + 1, 3, none⟩ = some (.slice C3a k3a f3a) ∧ V.cell? ⟨w.heap.size + 1 + 1, 4, none⟩ = some (.slice C3b k3b f3b) ∧ V.cell? ⟨w.heap.size + 1 + 1, 5, none⟩ = some (.slice C3c k3c f3c) ∧ V.cell? ⟨gx3, 0, none⟩ = some (.int .i64 y3) ∧ V.cell? ⟨gx3, 1, none⟩ = some (.slice Ax3 n3 cx3) ∧ V.cell? ⟨gx3, 2, none⟩ = some (.slice Xx3 m3 dx3) ∧ V.cell? ⟨gx3, 3, none⟩ = some (.slice Dx30 k3a gx30) ∧ V.cell? ⟨gx3, 4, none⟩ = some (.slice Dx31 k3b gx31) ∧ V.cell? ⟨gx3, 5, none⟩ = some (.slice Dx32 k3c gx32) := fun V hV => by
    have a0 := (B0.ext hV).cells
    have a2 := (B2.ext hV).cells
    have a3 := (B3.ext hV).cells
    have ax3x := (Bx3x.ext hV).cells
    exact ⟨a0 0, a0 1, a0 2, a2 0, a2 1, a2 2, a2 3, a2 4, a3 0, a3 1, a3 2, a3 3, a3 4, a3 5, ax3x 0, ax3x 1, ax3x 2, ax3x 3, ax3x 4, ax3x 5⟩
  go_cut [18, 19] from 89 to 99 (fun c0 c1 wx => ∃ A n c, c0 = .slice A n c ∧ c1 = .bool zb ∧ OwnI wx w11.heap.size 3 A n c lv ∧ Ext w11 wx)
  case first =>
    refine wp_region_held_drew (S := fun V => V.cell? ⟨w.heap.size, 0, none⟩ = some (.int .i64 x0_0) ∧ V.cell? ⟨w.heap.size, 1, none⟩ = some (.int .i64 x0_1) ∧ V.cell? ⟨w.heap.size, 2, none⟩ = some (.int .i64 x0_2) ∧ V.cell? ⟨w.heap.size + 1, 0, none⟩ = some (.int .i64 x2_0) ∧ V.cell? ⟨w.heap.size + 1, 1, none⟩ = some (.int .i64 x2_1) ∧ V.cell? ⟨w.heap.size + 1, 2, none⟩ = some (.int .i64 x2_2) ∧ V.cell? ⟨w.heap.size + 1, 3, none⟩ = some (.int .i64 x2_3) ∧ V.cell? ⟨w.heap.size + 1, 4, none⟩ = some (.int .i64 x2_4) ∧ V.cell? ⟨w.heap.size + 1 + 1, 0, none⟩ = some (.int .i64 y3) ∧ V.cell? ⟨w.heap.size + 1 + 1, 1, none⟩ = some (.slice A3 n3 c3) ∧ V.cell? ⟨w.heap.size + 1 + 1, 2, none⟩ = some (.slice Z3 m3 d3) ∧ V.cell? ⟨w.heap.size + 1 + 1, 3, none⟩ = some (.slice C3a k3a f3a) ∧ V.cell? ⟨w.heap.size + 1 + 1, 4, none⟩ = some (.slice C3b k3b f3b) ∧ V.cell? ⟨w.heap.size + 1 + 1, 5, none⟩ = some (.slice C3c k3c f3c) ∧ V.cell? ⟨gx3, 0, none⟩ = some (.int .i64 y3) ∧ V.cell? ⟨gx3, 1, none⟩ = some (.slice Ax3 n3 cx3) ∧ V.cell? ⟨gx3, 2, none⟩ = some (.slice Xx3 m3 dx3) ∧ V.cell? ⟨gx3, 3, none⟩ = some (.slice Dx30 k3a gx30) ∧ V.cell? ⟨gx3, 4, none⟩ = some (.slice Dx31 k3b gx31) ∧ V.cell? ⟨gx3, 5, none⟩ = some (.slice Dx32 k3c gx32)) (by kernel_rfl) ?_ (fun hHeld => ?_)
    · exact hS _ (by repeat (first | with_reducible assumption | with_reducible exact Ext.refl _ | with_reducible apply Ext.alloc | with_reducible apply Ext.drew | with_reducible apply Ext.drewN))
    refine' wpAnyH_take (i := 0) (v := _) ?hi0 (by kernel_rfl) (by kernel_rfl) (by kernel_rfl) ?hQ0 ?hy0 (by assumption) ?_
    case hi0 => (simp only [List.getElem?_toArray, List.getElem?_cons_zero]; rfl)
    case hy0 => refine Or.inl ⟨by rfl, ?_⟩; intro w hSw; (try dsimp only at hSw); go_simp <;> with_reducible rfl
    case hQ0 => exact fun _ _ _ h => h
    try simp only [Act.put, List.setIfInBounds_toArray, List.set_cons_zero, List.set_cons_succ]
    refine' wpAnyH_take (i := 2) (v := _) ?hi2 (by kernel_rfl) (by kernel_rfl) (by kernel_rfl) ?hQ2 ?hy2 (by assumption) ?_
    case hi2 => (simp only [List.getElem?_toArray, List.getElem?_cons_succ, List.getElem?_cons_zero]; rfl)
    case hy2 => refine Or.inl ⟨by rfl, ?_⟩; intro w hSw; (try dsimp only at hSw); go_simp <;> with_reducible rfl
    case hQ2 => exact fun _ _ _ h => h
    try simp only [Act.put, List.setIfInBounds_toArray, List.set_cons_zero, List.set_cons_succ]
    refine' wpAnyH_take (i := 3) (v := _) ?hi3 (by kernel_rfl) (by kernel_rfl) (by kernel_rfl) ?hQ3 ?hy3 (by assumption) ?_
    case hi3 => (simp only [List.getElem?_toArray, List.getElem?_cons_succ, List.getElem?_cons_zero]; rfl)
    case hy3 => refine Or.inl ⟨by rfl, ?_⟩; intro w hSw; (try dsimp only at hSw); go_simp <;> with_reducible rfl
    case hQ3 => exact fun _ _ _ h => h
    try simp only [Act.put, List.setIfInBounds_toArray, List.set_cons_zero, List.set_cons_succ]
    refine' wpAnyH_take (i := 5) (v := _) ?hi5 (by kernel_rfl) (by kernel_rfl) (by kernel_rfl) ?hQ5 ?hy5 (by assumption) ?_
    case hi5 => (simp only [List.getElem?_toArray, List.getElem?_cons_succ, List.getElem?_cons_zero]; rfl)
    case hy5 => refine Or.inl ⟨by rfl, ?_⟩; intro w hSw; (try dsimp only at hSw); go_simp <;> with_reducible rfl
    case hQ5 => exact fun _ _ _ h => h
    try simp only [Act.put, List.setIfInBounds_toArray, List.set_cons_zero, List.set_cons_succ]
    refine wpAnyH_ready (rs := [1]) (by kernel_rfl) (by simp) ?_
    refine AllReadyH.cons rfl (fun KK hKK => ?_) ?_
    · go_simp
      go_at_call 7
      refine (toGroup_any x0_0 x0_1 x0_2 _).mono ?_
      rintro en wk1 ⟨rfl, hbk1⟩
      have hxk1 := Ext.trans (w := w11) (by repeat (first | with_reducible assumption | with_reducible exact Ext.refl _ | with_reducible apply Ext.alloc | with_reducible apply Ext.drew | with_reducible apply Ext.drewN)) hbk1
      refine hKK.out _ _ ?_ (fun hHeld => ?_)
      · exact hS _ (by repeat (first | with_reducible assumption | with_reducible exact Ext.refl _ | with_reducible apply Ext.alloc | with_reducible apply Ext.drew | with_reducible apply Ext.drewN))
      clear hKK KK
      try simp only [Act.put, List.setIfInBounds_toArray, List.set_cons_zero, List.set_cons_succ]
      refine wpAnyH_ready (rs := [4]) (by kernel_rfl) (by simp) ?_
      refine AllReadyH.cons rfl (fun KK hKK => ?_) ?_
      · go_simp
        go_at_call 8
        refine (toContest_any x2_0 x2_1 x2_2 x2_3 x2_4 _).mono ?_
        rintro en wk4 ⟨rfl, hbk4⟩
        have hxk4 := Ext.trans (w := w11) (by repeat (first | with_reducible assumption | with_reducible exact Ext.refl _ | with_reducible apply Ext.alloc | with_reducible apply Ext.drew | with_reducible apply Ext.drewN)) hbk4
        refine hKK.out _ _ ?_ (fun hHeld => ?_)
        · exact hS _ (by repeat (first | with_reducible assumption | with_reducible exact Ext.refl _ | with_reducible apply Ext.alloc | with_reducible apply Ext.drew | with_reducible apply Ext.drewN))
        clear hKK KK
        try simp only [Act.put, List.setIfInBounds_toArray, List.set_cons_zero, List.set_cons_succ]
        refine wpAnyH_ready (rs := [6]) (by kernel_rfl) (by simp) ?_
        refine AllReadyH.cons rfl (fun KK hKK => ?_) ?_
        · go_simp
          go_at_call 9
          refine (toSealed_any y3 A3 n3 c3 Z3 m3 d3 C3a k3a f3a C3b k3b f3b C3c k3c f3c l3 p3 l3a l3b l3c _ (RdC.ext ra3 (E.trans (by repeat (first | with_reducible assumption | with_reducible exact Ext.refl _ | with_reducible apply Ext.alloc | with_reducible apply Ext.drew | with_reducible apply Ext.drewN)))) Hn3.out (RdP.ext rq3 (E.trans (by repeat (first | with_reducible assumption | with_reducible exact Ext.refl _ | with_reducible apply Ext.alloc | with_reducible apply Ext.drew | with_reducible apply Ext.drewN)))) Hm3.out (SlI.ext s3a (E.trans (by repeat (first | with_reducible assumption | with_reducible exact Ext.refl _ | with_reducible apply Ext.alloc | with_reducible apply Ext.drew | with_reducible apply Ext.drewN)))) (SlI.ext s3b (E.trans (by repeat (first | with_reducible assumption | with_reducible exact Ext.refl _ | with_reducible apply Ext.alloc | with_reducible apply Ext.drew | with_reducible apply Ext.drewN)))) (SlI.ext s3c (E.trans (by repeat (first | with_reducible assumption | with_reducible exact Ext.refl _ | with_reducible apply Ext.alloc | with_reducible apply Ext.drew | with_reducible apply Ext.drewN)))) (by omega)).mono ?_
          rintro en wk6 ⟨At3, ct3, Xt3, dt3, Pt3, Dt30, gt30, Dt31, gt31, Dt32, gt32, rfl, t3, hbk6⟩
          have hxk6 := Ext.trans (w := w11) (by repeat (first | with_reducible assumption | with_reducible exact Ext.refl _ | with_reducible apply Ext.alloc | with_reducible apply Ext.drew | with_reducible apply Ext.drewN)) hbk6
          refine hKK.out _ _ ?_ (fun hHeld => ?_)
          · exact hS _ (by repeat (first | with_reducible assumption | with_reducible exact Ext.refl _ | with_reducible apply Ext.alloc | with_reducible apply Ext.drew | with_reducible apply Ext.drewN))
          clear hKK KK
          try simp only [Act.put, List.setIfInBounds_toArray, List.set_cons_zero, List.set_cons_succ]
          refine wpAnyH_ready (rs := [7]) (by kernel_rfl) (by simp) ?_
          refine AllReadyH.cons rfl (fun KK hKK => ?_) ?_
          · go_simp
            go_at_call 10
            refine (iOpenSealed_any x0_0 x0_1 x0_2 a1 x2_0 x2_1 x2_2 x2_3 x2_4 y3 At3 n3 ct3 Xt3 m3 dt3 Dt30 k3a gt30 Dt31 k3b gt31 Dt32 k3c gt32 l3 _ (RdC.ext t3.c.rd (by repeat (first | with_reducible assumption | with_reducible exact Ext.refl _ | with_reducible apply Ext.alloc | with_reducible apply Ext.drew | with_reducible apply Ext.drewN))) t3.c.len t3.c.le f1).mono ?_
            rintro en wk7 ⟨Ah0, nh0, ch0, hen, Oh0, hbk7⟩
            rw [HZ.out] at hen; rw [HV.out] at Oh0; subst hen
            have hxk7 := Ext.trans (w := w11) (by repeat (first | with_reducible assumption | with_reducible exact Ext.refl _ | with_reducible apply Ext.alloc | with_reducible apply Ext.drew | with_reducible apply Ext.drewN)) hbk7
            replace t3 := t3.ext (Ext.trans (by repeat (first | with_reducible assumption | with_reducible exact Ext.refl _ | with_reducible apply Ext.alloc | with_reducible apply Ext.drew | with_reducible apply Ext.drewN)) hbk7)
            refine hKK.out _ _ ?_ (fun hHeld => ?_)
            · exact hS _ (by repeat (first | with_reducible assumption | with_reducible exact Ext.refl _ | with_reducible apply Ext.alloc | with_reducible apply Ext.drew | with_reducible apply Ext.drewN))
            clear hKK KK
            try simp only [Act.put, List.setIfInBounds_toArray, List.set_cons_zero, List.set_cons_succ]
            refine' wpAnyH_take (i := 8) (v := _) ?hi8 (by kernel_rfl) (by kernel_rfl) (by kernel_rfl) ?hQ8 ?hy8 (by assumption) ?_
            case hi8 => (simp only [List.getElem?_toArray, List.getElem?_cons_succ, List.getElem?_cons_zero]; rfl)
            case hy8 => refine Or.inl ⟨by rfl, ?_⟩; intro w hSw; (try dsimp only at hSw); go_simp <;> with_reducible rfl
            case hQ8 => exact fun _ _ _ h => h
            try simp only [Act.put, List.setIfInBounds_toArray, List.set_cons_zero, List.set_cons_succ]
            refine' wpAnyH_take (i := 9) (v := _) ?hi9 (by kernel_rfl) (by kernel_rfl) (by kernel_rfl) ?hQ9 ?hy9 (by assumption) ?_
            case hi9 => (simp only [List.getElem?_toArray, List.getElem?_cons_succ, List.getElem?_cons_zero]; rfl)
            case hy9 => refine Or.inl ⟨by rfl, ?_⟩; intro w hSw; (try dsimp only at hSw); go_simp <;> with_reducible rfl
            case hQ9 => exact fun _ _ _ h => h
            try simp only [Act.put, List.setIfInBounds_toArray, List.set_cons_zero, List.set_cons_succ]
            refine' wpAnyH_take (i := 10) (v := _) ?hi10 (by kernel_rfl) (by kernel_rfl) (by kernel_rfl) ?hQ10 ?hy10 (by assumption) ?_
            case hi10 => (simp only [List.getElem?_toArray, List.getElem?_cons_succ, List.getElem?_cons_zero]; rfl)
            case hy10 => refine Or.inl ⟨by rfl, ?_⟩; intro w hSw; (try dsimp only at hSw); go_simp <;> with_reducible rfl
            case hQ10 => exact fun _ _ _ h => h
            try simp only [Act.put, List.setIfInBounds_toArray, List.set_cons_zero, List.set_cons_succ]
            refine' wpAnyH_take (i := 11) (v := _) ?hi11 (by kernel_rfl) (by kernel_rfl) (by kernel_rfl) ?hQ11 ?hy11 (by assumption) ?_
            case hi11 => (simp only [List.getElem?_toArray, List.getElem?_cons_succ, List.getElem?_cons_zero]; rfl)
            case hy11 => refine Or.inl ⟨by rfl, ?_⟩; intro w hSw; (try dsimp only at hSw); go_simp <;> with_reducible rfl
            case hQ11 => exact fun _ _ _ h => h
            try simp only [Act.put, List.setIfInBounds_toArray, List.set_cons_zero, List.set_cons_succ]
            refine' wpAnyH_take (i := 12) (v := _) ?hi12 (by kernel_rfl) (by kernel_rfl) (by kernel_rfl) ?hQ12 ?hy12 (by assumption) ?_
            case hi12 => (simp only [List.getElem?_toArray, List.getElem?_cons_succ, List.getElem?_cons_zero]; rfl)
            case hy12 => refine Or.inl ⟨by rfl, ?_⟩; intro w hSw; (try dsimp only at hSw); go_simp <;> with_reducible rfl
            case hQ12 => exact fun _ _ _ h => h
            try simp only [Act.put, List.setIfInBounds_toArray, List.set_cons_zero, List.set_cons_succ]
            refine wpAnyH_done (by kernel_rfl) ?_ _
            go_wp2
            go_meet
            exact ⟨_, _, _, rfl, rfl, OwnI.more Oh0 (Ext.size (w := w11) (by repeat (first | with_reducible assumption | with_reducible exact Ext.refl _ | with_reducible apply Ext.alloc | with_reducible apply Ext.drew | with_reducible apply Ext.drewN))), hxk7⟩
          exact AllReadyH.nil
        exact AllReadyH.nil
      exact AllReadyH.nil
    exact AllReadyH.nil
  case' rest =>
  obtain ⟨Ah0, nh0, ch0, rfl, rfl, Oh0, hb⟩ := hcut
  replace E := E.trans hb
  replace B0 := B0.ext hb
  replace B2 := B2.ext hb
  replace B3 := B3.ext hb
  replace Bx3x := Bx3x.ext hb
  replace Ow0 := Ow0.ext hb
  replace Og0 := Og0.ext hb
  clear hb hS
  generalize wc = w12 at *
  have Nh0 : nh0 ≤ 1000 := by have := Oh0.len; omega
  have CC0 := B0.cells
  have CC2 := B2.cells
  have CC3 := B3.cells
  have CCx3x := Bx3x.cells
  go_wp2_with fail
  refine (eqIntS_same (RdI.ext Oh0.rd (Ext.refl _)) (RdI.ext Ow0.rd (Ext.refl _)) Oh0.len Ow0.len Oh0.le Ow0.le).mono ?_
  rintro en w13 ⟨rfl, hb⟩
  clear CC0 CC2 CC3 CCx3x
  replace E := E.trans hb
  replace B0 := B0.ext hb
  replace B2 := B2.ext hb
  replace B3 := B3.ext hb
  replace Bx3x := Bx3x.ext hb
  replace Ow0 := Ow0.ext hb
  replace Og0 := Og0.ext hb
  replace Oh0 := Oh0.ext hb
  clear hb
  have CC0 := B0.cells
  have CC2 := B2.cells
  have CC3 := B3.cells
  have CCx3x := Bx3x.cells
  go_wp2_with fail
  refine (heldIntS_any Og0.rd (by omega) (by omega)).mono ?_
  rintro en w14 ⟨rfl, hb⟩
  clear CC0 CC2 CC3 CCx3x
  replace E := E.trans hb
  replace B0 := B0.ext hb
  replace B2 := B2.ext hb
  replace B3 := B3.ext hb
  replace Bx3x := Bx3x.ext hb
  replace Ow0 := Ow0.ext hb
  replace Og0 := Og0.ext hb
  replace Oh0 := Oh0.ext hb
  clear hb
  go_wp2
  go_ret
  exact ⟨rfl, E⟩
end lawOpenSealed

set_option maxRecDepth 100000 in
theorem lawOpenSealed.lifted (os : Os) (started : os.Started) (H : Type) (enc : TypeId × Value → H) :
    ReturnsInHanded {} Tryz.checked os 3 .any (Rows.fnExactOpenSealedSpec.pre6 enc Tryz.prog Tryz.f3 Rows.fnExactOpenSealedRow.domain false) (Rows.fnExactOpenSealedSpec.post enc Tryz.prog Tryz.f3 false true false false) := by
  refine returnsInHanded_of_change (C := Tryz.checked) Facts.own started (by kernel_rfl) Tryz.func3
    (ChangeSpec.witness6 (enc := enc) (C := Tryz.checked) false ⟨#[], #[.agg #[.int .i64 0, .int .i64 0, .int .i64 0], .int .i64 0, .agg #[.int .i64 0, .int .i64 0, .int .i64 0, .int .i64 0, .int .i64 0], .agg #[.int .i64 0, .slice none 0 0, .slice none 0 0, .slice none 0 0, .slice none 0 0, .slice none 0 0]], []⟩ 8 (by kernel_rfl) (by kernel_rfl) (by kernel_rfl) (by kernel_rfl)) ?_
  intro W base args ds gs before hval0 hW _ _
  have hval : ∀ (j : Nat) t v, Tryz.f3.params[j]? = some t → args[j]? = some v → Value.okWide Tryz.prog W .any base t v := hval0
  have hW' := hW
  obtain ⟨p, q, hA0, hV, rfl, hfz, hnd⟩ := hW
  have hA : DataW.TrodAll enc Tryz.prog W 0 (fun _ => true) true Tryz.f3.params.toList args.toList ds p := hA0
  rw [Tryz.params3] at hA hval
  obtain ⟨v0, vs0, d0, ds0, p0, q0, hargs, rfl, rfl, h0, r0⟩ := trodAll_cons hA
  obtain ⟨v1, vs1, d1, ds1, p1, q1, rfl, rfl, rfl, h1, r1⟩ := trodAll_cons r0
  obtain ⟨v2, vs2, d2, ds2, p2, q2, rfl, rfl, rfl, h2, r2⟩ := trodAll_cons r1
  obtain ⟨v3, vs3, d3, ds3, p3, q3, rfl, rfl, rfl, h3, r3⟩ := trodAll_cons r2
  obtain ⟨rfl, rfl, rfl⟩ := trodAll_nil r3
  obtain rfl : args = #[v0, v1, v2, v3] := by cases args; simp_all
  obtain ⟨rfl, rfl⟩ := trodVars_none hV
  have hlt := hW'.lt
  clear hA hA0 hval0 hargs r0 r1 r2 r3
  have k0 := h0
  have k1 := h1
  have k2 := h2
  have k3 := h3
  obtain ⟨x0_0, x0_1, x0_2, rfl, f0_0, f0_1, f0_2⟩ := openAgg3 Tryz.underlying23 (by kernel_rfl) (by kernel_rfl) rfl (hval 0 23 v0 rfl rfl) h0
  obtain ⟨a1, rfl, f1⟩ := openI Tryz.underlying3 (hval 1 3 v1 rfl rfl) h1
  obtain ⟨x2_0, x2_1, x2_2, x2_3, x2_4, rfl, f2_0, f2_1, f2_2, f2_3, f2_4⟩ := openAgg5 Tryz.underlying25 (by kernel_rfl) (by kernel_rfl) rfl (hval 2 25 v2 rfl rfl) h2
  obtain ⟨y3, A3, l3, c3, B3, p3, d3, C3a, l3a, f3a, C3b, l3b, f3b, C3c, l3c, f3c, rfl, r3, q3, s3a, s3b, s3c⟩ := openXS (ti := 3) (tc := 26) (tp := 27) (tq := 30) Tryz.underlying32 (by kernel_rfl) (by kernel_rfl) Tryz.underlying3 Tryz.underlying26 Tryz.underlying97 (by kernel_rfl) (by kernel_rfl) rfl Tryz.underlying27 Tryz.underlying30 (by kernel_rfl) (by kernel_rfl) rfl Tryz.underlying30 (by kernel_rfl) rfl (by kernel_rfl) (by kernel_rfl) (by kernel_rfl) (by kernel_rfl) (hval 3 32 v3 rfl rfl) h3
  refine (lawOpenSealed.walk x0_0 x0_1 x0_2 a1 x2_0 x2_1 x2_2 x2_3 x2_4 y3 A3 l3 c3 B3 p3 d3 C3a l3a f3a C3b l3b f3b C3c l3c f3c W f0_0 f0_1 f0_2 f1 f2_0 f2_1 f2_2 f2_3 f2_4 r3 q3 s3a s3b s3c).mono fun e W' ⟨he, hg⟩ => ?_
  subst he
  exact ⟨_, rfl, post_below (pv := []) hW' (fun _ _ _ => (trodAll_cons_mk (shut_bool Tryz.underlying4 _) trodAll_mk0)) (fun sp hsp => (trodAll_cons_mk (WideElems.Trod_stays Facts.laidOut (by kernel_rfl) (of_decide_eq_true (by kernel_rfl)) k0 (fun x hx => hg.same (hlt x (by simp [hx]))) (fun x hx => hsp x (by simp [hx]))) (trodAll_cons_mk (WideElems.Trod_stays Facts.laidOut (by kernel_rfl) (of_decide_eq_true (by kernel_rfl)) k1 (fun x hx => hg.same (hlt x (by simp [hx]))) (fun x hx => hsp x (by simp [hx]))) (trodAll_cons_mk (WideElems.Trod_stays Facts.laidOut (by kernel_rfl) (of_decide_eq_true (by kernel_rfl)) k2 (fun x hx => hg.same (hlt x (by simp [hx]))) (fun x hx => hsp x (by simp [hx]))) (trodAll_cons_mk (WideElems.Trod_stays Facts.laidOut (by kernel_rfl) (of_decide_eq_true (by kernel_rfl)) k3 (fun x hx => hg.same (hlt x (by simp [hx]))) (fun x hx => hsp x (by simp [hx]))) trodAll_mk0))))) (fun _ _ => rfl) rfl
    hg (ok_one (by kernel_rfl) rfl (okWide_bool_mk Tryz.underlying4 _))⟩

theorem lawOpenSealed.named : Tryz.pinned.checked.prog.funcNamed Rows.fnExactOpenSealedRow.func = some 3 := by kernel_rfl
theorem lawOpenSealed.z9 : (Rows.fnExactOpenSealedRow.inPlace == Tryz.prog.inPlace 3) = true := by kernel_rfl
theorem lawOpenSealed.z10 : (Rows.fnExactOpenSealedRow.unfollowed == Tryz.prog.unfollowed 3) = true := by kernel_rfl
theorem lawOpenSealed.z11 : (Rows.fnExactOpenSealedRow.recurses == Tryz.prog.recurses 3) = true := by kernel_rfl
theorem lawOpenSealed.z12 : (Rows.fnExactOpenSealedRow.named == Tryz.prog.varsNamed 3) = true := by kernel_rfl
theorem lawOpenSealed.closed : joinedFacts Tryz.prog 3 Tryz.f3 Rows.fnExactOpenSealedSpec Rows.fnExactOpenSealedRow = true :=
  joined_of (by kernel_rfl) Facts.laidOut Facts.mapsRowed (by kernel_rfl) (by kernel_rfl) (by kernel_rfl) (by kernel_rfl) (by kernel_rfl) (by kernel_rfl) lawOpenSealed.z9 lawOpenSealed.z10 lawOpenSealed.z11 lawOpenSealed.z12 (by kernel_rfl) (by kernel_rfl) (by kernel_rfl) (by kernel_rfl) (by kernel_rfl) (by kernel_rfl) (by kernel_rfl) (by kernel_rfl) (by kernel_rfl) (by rw [Facts.plainKeys]; rfl) (by kernel_rfl) Facts.heard Facts.enter (by rw [Facts.lifts]; rfl) (by rw [Facts.make]; rfl) (by kernel_rfl) (by kernel_rfl) (by kernel_rfl) (by kernel_rfl)
theorem lawOpenSealed.inst : Tryz.f3.isInstance Tryz.pinned.checked.prog Rows.fnExactOpenSealedRow.origin Rows.fnExactOpenSealedRow.targs := of_decide_eq_true (by kernel_rfl)
theorem lawOpenSealed.wrap : Tryz.f3.isWrapper Tryz.pinned.checked.prog Rows.fnExactOpenSealedRow.wrapper Rows.fnExactOpenSealedRow.mainSum := by
  unfold Func.isWrapper; first | (rw [if_pos (by decide +kernel)]; kernel_rfl) | (rw [if_neg (by decide +kernel)]; exact ⟨rfl, rfl⟩)
theorem lawOpenSealed.over : Rows.fnExactOpenSealedRow.holds Tryz.pinned (OpenSpec.ofChange Rows.fnExactOpenSealedSpec) :=
  OpenClaim.holds_of_wide 3 Tryz.f3 rfl rfl rfl rfl rfl rfl rfl ⟨rfl, rfl, rfl, rfl, rfl⟩ rfl rfl rfl rfl rfl lawOpenSealed.named Tryz.func3 lawOpenSealed.closed
    lawOpenSealed.inst lawOpenSealed.wrap (fun os started H enc _ => lawOpenSealed.lifted os started H enc)

theorem lawOpenSealed.proved : Rows.FnExactOpenSealedSaid := lawOpenSealed.over
#print axioms lawOpenSealed.proved
end Go.Proofs.YtpfccboighdcbaaGreat
